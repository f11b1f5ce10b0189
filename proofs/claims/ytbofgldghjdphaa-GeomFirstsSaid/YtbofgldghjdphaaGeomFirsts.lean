/-
  GeomFirsts: the devices of the groups follow one another, from 0 on, and are all. No condition.
-/
import Derived.Test.YtbofgldghjdphaaGeomLaw
namespace Go.Proofs.Ytbofgldghjdphaa
open Go.RowKit Go.ChangeShapes Go.WideShapes Go.ChangeAt Go.Joins

namespace GeomFirsts

set_option maxHeartbeats 1000000 in
theorem walk_yes {s : Slc} {secs : Int} (h : goodG s secs) (w : World) [m : GM s w] :
    Calls Try.prog 5 #[.agg #[.slice s.ad s.len s.cap, .int .i64 secs]] w (Ret (.bool true) w) := by
  have HR := Lib.hid (fun (w : World) [GM s w] => right_yes h w)
  have HD := Lib.hid (fun (w : World) [GM s w] => devs_yes h w)
  have HG := Lib.hid h
  have hl := h.2.1
  clear h
  go_enter Try.func5, Try.ntmps5
  go_wp2_with (first | (go_at_call 8; with_reducible refine (awake_any.at _).mono ?_; rintro e w' ⟨rfl, g, rfl⟩) | (go_at_call 10; (first | (with_reducible refine (Calls.at (HR.out _)).mono ?_)); rintro e w' ⟨rfl, g, rfl⟩))
  go_loopw [3, 4] (fun n i wr => ∃ k : Nat, k ≤ s.len ∧ i = .int .i64 k ∧ n = .int .i64 (sumW s k) ∧ ∃ g' : Gr, wr = gr (w.alloc (.cells #[.slice s.ad s.len s.cap, .int .i64 secs] 24)) g')
    (fun _ i _ => s.len - (intOf i).toNat)
  case atStart => exact ⟨0, Nat.zero_le _, rfl, rfl, _, rfl⟩
  case round =>
    obtain ⟨k, hk, rfl, rfl, g', rfl⟩ := hrel
    have hb := sumW_le HG.out k hk
    by_cases hlt : k < s.len
    · have hcx := m.c0 k hlt
      have hcy := m.c1 k hlt
      have hix := ix_grp m hlt
      haveI hbo := m.isOld hlt
      have hw := wide_of HG.out hlt
      have HF := Lib.hid (fun (w : World) [GM s w] => first_yes HG.out hlt w)
      go_wp2_with (go_at_call 12; (first | (with_reducible refine (Calls.at (HF.out _)).mono ?_)); rintro e w' ⟨rfl, g, rfl⟩)
      go_roundw
      case rel => exact ⟨k + 1, by omega, by go_num, rfl, _, rfl⟩
      case measure => simp [intOf]; omega
    · obtain rfl : s.len = k := by omega
      go_wp2_with (go_at_call 13; (first | (with_reducible refine (Calls.at (HD.out _)).mono ?_)); rintro e w' ⟨rfl, g, rfl⟩)
      go_ret
      exact Ret.mk rfl (by (repeat' (first | (with_reducible exact Below.refl _ _) | (with_reducible refine belowGrU ?_ _) | (with_reducible refine belowAlloc ?_ _) | (with_reducible refine Below.setCell ?_ ?_ _) | (with_reducible refine Below.drew ?_) | (simp [go_sem]; done) | (simp [go_sem]; omega))))

theorem walk_no {s : Slc} {secs : Int} (h : ¬ goodG s secs) (hs : s.len ≤ 9223372036854775807) (w : World) [m : GM s w] :
    Calls Try.prog 5 #[.agg #[.slice s.ad s.len s.cap, .int .i64 secs]] w (Ret (.bool true) w) := by
  have HR := Lib.hid (fun (w : World) [GM s w] => right_no h hs w)
  clear h
  go_enter Try.func5, Try.ntmps5
  go_wp2_with (first | (go_at_call 8; with_reducible refine (awake_any.at _).mono ?_; rintro e w' ⟨rfl, g, rfl⟩) | (go_at_call 10; (first | (with_reducible refine (Calls.at (HR.out _)).mono ?_)); rintro e w' ⟨rfl, g, rfl⟩))
  go_ret
  exact Ret.mk rfl (by (repeat' (first | (with_reducible exact Below.refl _ _) | (with_reducible refine belowGrU ?_ _) | (with_reducible refine belowAlloc ?_ _) | (with_reducible refine Below.setCell ?_ ?_ _) | (with_reducible refine Below.drew ?_) | (simp [go_sem]; done) | (simp [go_sem]; omega))))

theorem lawWalk : LawWalk 5 Try.f5.params := by
  intro H enc W base args ds p hval hA _ _
  rw [Try.params5] at hA hval
  obtain ⟨v0, d0, rfl, rfl, h0⟩ := trodAll_one hA
  obtain ⟨s, secs, rfl, hs, hm, _⟩ := open_geom (hval 0 24 v0 rfl rfl) h0
  haveI := hm
  by_cases h : goodG s secs
  · exact walk_yes h W
  · exact walk_no h hs W

set_option maxRecDepth 100000 in
theorem holds : Rows.GeomFirstsSaid :=
  OpenClaim.holds_of_wide 5 Try.f5 rfl rfl rfl rfl rfl rfl rfl ⟨rfl, rfl, rfl, rfl, rfl⟩ rfl rfl rfl rfl rfl (by kernel_rfl) Try.func5 (by kernel_rfl)
    (of_decide_eq_true (by kernel_rfl)) (by unfold Func.isWrapper; first | (rw [if_pos (by decide +kernel)]; kernel_rfl) | (rw [if_neg (by decide +kernel)]; exact ⟨rfl, rfl⟩))
    (fun os started H enc _ => law_lifted (s := Rows.geomFirstsSpec) started (by kernel_rfl) Try.func5 rfl rfl Try.underlying4 (by kernel_rfl)
      (fun ds h => by
        rw [Try.params5] at h
        match ds, h with
        | [d1], _ => rfl)
      (ChangeSpec.witness6 (enc := enc) (C := Try.checked) false ⟨#[], #[.agg #[.slice none 0 0, .int .i64 0]], []⟩ 8 (by kernel_rfl) (by kernel_rfl) (by kernel_rfl) (by kernel_rfl))
      lawWalk)
#print axioms holds

end GeomFirsts
end Go.Proofs.Ytbofgldghjdphaa

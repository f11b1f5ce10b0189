/-
  GeomOwns: each device is of one group, at one place of it. No condition.
-/
import Derived.Test.YtbofgldghjdphaaGeomLaw
namespace Go.Proofs.Ytbofgldghjdphaa
open Go.RowKit Go.ChangeShapes Go.WideShapes Go.ChangeAt Go.Joins

namespace GeomOwns

theorem owner {s : Slc} {secs d : Int} (h : goodG s secs) (h0 : 0 ≤ d) : ∀ k, k ≤ s.len → d < sumW s k → ∃ n, n < k ∧ sumW s n ≤ d ∧ d < sumW s (n + 1)
  | 0, _, h2 => by simp [sumW] at h2; omega
  | k + 1, hk, h2 => by
    by_cases e : d < sumW s k
    · obtain ⟨n, hn, a, b⟩ := owner h h0 k (by omega) e
      exact ⟨n, by omega, a, b⟩
    · exact ⟨k, by omega, by omega, h2⟩

set_option maxHeartbeats 1000000 in
theorem walk_yes {s : Slc} {secs d : Int} {n : Nat} (h : goodG s secs) (hn : n < s.len) (h1 : sumW s n ≤ d) (h2 : d < sumW s (n + 1)) (w : World) [m : GM s w] :
    Calls Try.prog 7 #[.agg #[.slice s.ad s.len s.cap, .int .i64 secs], .int .i64 d] w (Ret (.bool true) w) := by
  have HR := Lib.hid (fun (w : World) [GM s w] => right_yes h w)
  have HO := Lib.hid (fun (w : World) [GM s w] => of_yes h hn h1 h2 w)
  have HF := Lib.hid (fun (w : World) [GM s w] => first_yes h hn w)
  have HD := Lib.hid (fun (w : World) [GM s w] => devs_yes h w)
  have hw := wide_of h hn
  have hl := h.2.1
  have b1 := sumW_le h n (by omega)
  have b2 := sumW_le h s.len (by omega)
  have b3 := sumW_mono h (j := n + 1) s.len hn (Nat.le_refl _)
  have hd : d < sumW s s.len := by omega
  have hy : d - sumW s n < s.y n := by simp only [sumW] at h2; omega
  have hcx := m.c0 n hn
  have hcy := m.c1 n hn
  have hix := ix_grp m hn
  haveI hbo := m.isOld hn
  have hd0 : 0 ≤ d := by omega
  have he : (sumW s n + (d - sumW s n) == d) = true := by rw [beq_iff_eq]; omega
  clear h h2 b3
  go_enter Try.func7, Try.ntmps7
  go_wp2_with (first | (go_at_call 8; with_reducible refine (awake_any.at _).mono ?_; rintro e w' ⟨rfl, g, rfl⟩) | (go_at_call 10; (first | (with_reducible refine (Calls.at (HR.out _)).mono ?_)); rintro e w' ⟨rfl, g, rfl⟩) | (go_at_call 15; (first | (with_reducible refine (Calls.at (HO.out _)).mono ?_)); rintro e w' ⟨rfl, g, rfl⟩) | (go_at_call 12; (first | (with_reducible refine (Calls.at (HF.out _)).mono ?_)); rintro e w' ⟨rfl, g, rfl⟩) | (go_at_call 13; (first | (with_reducible refine (Calls.at (HD.out _)).mono ?_)); rintro e w' ⟨rfl, g, rfl⟩))
  go_ret
  exact Ret.mk (congrArg Value.bool (by simp; try omega)) (by (repeat' (first | (with_reducible exact Below.refl _ _) | (with_reducible refine belowGrU ?_ _) | (with_reducible refine belowAlloc ?_ _) | (with_reducible refine Below.setCell ?_ ?_ _) | (with_reducible refine Below.drew ?_) | (simp [go_sem]; done) | (simp [go_sem]; omega))))

theorem walk_not {s : Slc} {secs d : Int} (h : goodG s secs) (hd : ¬ (0 ≤ d ∧ d < sumW s s.len)) (hs : s.len ≤ 9223372036854775807) (hdm : d ≤ 9223372036854775807) (w : World) [m : GM s w] :
    Calls Try.prog 7 #[.agg #[.slice s.ad s.len s.cap, .int .i64 secs], .int .i64 d] w (Ret (.bool true) w) := by
  have HR := Lib.hid (fun (w : World) [GM s w] => right_yes h w)
  have HO := Lib.hid (fun (w : World) [GM s w] => of_no (secs := secs) (d := d) (fun k => hd ⟨k.2.1, k.2.2⟩) hs hdm w)
  have HD := Lib.hid (fun (w : World) [GM s w] => devs_yes h w)
  clear h
  by_cases h0 : 0 ≤ d
  · have h1 : ¬ d < sumW s s.len := fun h1 => hd ⟨h0, h1⟩
    clear hd
    go_enter Try.func7, Try.ntmps7
    go_wp2_with (first | (go_at_call 8; with_reducible refine (awake_any.at _).mono ?_; rintro e w' ⟨rfl, g, rfl⟩) | (go_at_call 10; (first | (with_reducible refine (Calls.at (HR.out _)).mono ?_)); rintro e w' ⟨rfl, g, rfl⟩) | (go_at_call 15; (first | (with_reducible refine (Calls.at (HO.out _)).mono ?_)); rintro e w' ⟨rfl, g, rfl⟩) | (go_at_call 13; (first | (with_reducible refine (Calls.at (HD.out _)).mono ?_)); rintro e w' ⟨rfl, g, rfl⟩))
    go_ret
    exact Ret.mk rfl (by (repeat' (first | (with_reducible exact Below.refl _ _) | (with_reducible refine belowGrU ?_ _) | (with_reducible refine belowAlloc ?_ _) | (with_reducible refine Below.setCell ?_ ?_ _) | (with_reducible refine Below.drew ?_) | (simp [go_sem]; done) | (simp [go_sem]; omega))))

  · clear hd
    go_enter Try.func7, Try.ntmps7
    go_wp2_with (first | (go_at_call 8; with_reducible refine (awake_any.at _).mono ?_; rintro e w' ⟨rfl, g, rfl⟩) | (go_at_call 10; (first | (with_reducible refine (Calls.at (HR.out _)).mono ?_)); rintro e w' ⟨rfl, g, rfl⟩) | (go_at_call 15; (first | (with_reducible refine (Calls.at (HO.out _)).mono ?_)); rintro e w' ⟨rfl, g, rfl⟩) | (go_at_call 13; (first | (with_reducible refine (Calls.at (HD.out _)).mono ?_)); rintro e w' ⟨rfl, g, rfl⟩))
    go_ret
    exact Ret.mk rfl (by (repeat' (first | (with_reducible exact Below.refl _ _) | (with_reducible refine belowGrU ?_ _) | (with_reducible refine belowAlloc ?_ _) | (with_reducible refine Below.setCell ?_ ?_ _) | (with_reducible refine Below.drew ?_) | (simp [go_sem]; done) | (simp [go_sem]; omega))))

theorem walk_no {s : Slc} {secs d : Int} (h : ¬ goodG s secs) (hs : s.len ≤ 9223372036854775807) (hdm : d ≤ 9223372036854775807) (w : World) [m : GM s w] :
    Calls Try.prog 7 #[.agg #[.slice s.ad s.len s.cap, .int .i64 secs], .int .i64 d] w (Ret (.bool true) w) := by
  have HR := Lib.hid (fun (w : World) [GM s w] => right_no h hs w)
  have HO := Lib.hid (fun (w : World) [GM s w] => of_no (secs := secs) (d := d) (fun k => h k.1) hs hdm w)
  have HD := Lib.hid (fun (w : World) [GM s w] => devs_no h hs w)
  clear h
  go_enter Try.func7, Try.ntmps7
  go_wp2_with (first | (go_at_call 8; with_reducible refine (awake_any.at _).mono ?_; rintro e w' ⟨rfl, g, rfl⟩) | (go_at_call 10; (first | (with_reducible refine (Calls.at (HR.out _)).mono ?_)); rintro e w' ⟨rfl, g, rfl⟩) | (go_at_call 15; (first | (with_reducible refine (Calls.at (HO.out _)).mono ?_)); rintro e w' ⟨rfl, g, rfl⟩) | (go_at_call 13; (first | (with_reducible refine (Calls.at (HD.out _)).mono ?_)); rintro e w' ⟨rfl, g, rfl⟩))
  go_ret
  exact Ret.mk rfl (by (repeat' (first | (with_reducible exact Below.refl _ _) | (with_reducible refine belowGrU ?_ _) | (with_reducible refine belowAlloc ?_ _) | (with_reducible refine Below.setCell ?_ ?_ _) | (with_reducible refine Below.drew ?_) | (simp [go_sem]; done) | (simp [go_sem]; omega))))

theorem lawWalk : LawWalk 7 Try.f7.params := by
  intro H enc W base args ds p hval hA _ _
  rw [Try.params7] at hA hval
  obtain ⟨v0, v1, d0, d1, p0, p1, rfl, rfl, rfl, h0, h1⟩ := trodAll_two hA
  obtain ⟨s, secs, rfl, hs, hm, _⟩ := open_geom (hval 0 24 v0 rfl rfl) h0
  obtain ⟨d, rfl, _, _, wd⟩ := open_int Try.underlying3 (hval 1 3 v1 rfl rfl) h1
  have hdm : d ≤ 9223372036854775807 := by
    have := wd
    simp [Lit.wf, IntKind.min, IntKind.max, IntKind.signed, IntKind.bits] at this
    omega
  haveI := hm
  by_cases h : goodG s secs
  · by_cases hd : 0 ≤ d ∧ d < sumW s s.len
    · obtain ⟨n, hn, a, b⟩ := owner h hd.1 s.len (Nat.le_refl _) hd.2
      exact walk_yes h hn a b W
    · exact walk_not h hd hs hdm W
  · exact walk_no h hs hdm W

set_option maxRecDepth 100000 in
theorem holds : Rows.GeomOwnsSaid :=
  OpenClaim.holds_of_wide 7 Try.f7 rfl rfl rfl rfl rfl rfl rfl ⟨rfl, rfl, rfl, rfl, rfl⟩ rfl rfl rfl rfl rfl (by kernel_rfl) Try.func7 (by kernel_rfl)
    (of_decide_eq_true (by kernel_rfl)) (by unfold Func.isWrapper; first | (rw [if_pos (by decide +kernel)]; kernel_rfl) | (rw [if_neg (by decide +kernel)]; exact ⟨rfl, rfl⟩))
    (fun os started H enc _ => law_lifted (s := Rows.geomOwnsSpec) started (by kernel_rfl) Try.func7 rfl rfl Try.underlying4 (by kernel_rfl)
      (fun ds h => by
        rw [Try.params7] at h
        match ds, h with
        | [d1, d2], _ => rfl)
      (ChangeSpec.witness6 (enc := enc) (C := Try.checked) false ⟨#[], #[.agg #[.slice none 0 0, .int .i64 0], .int .i64 0], []⟩ 8 (by kernel_rfl) (by kernel_rfl) (by kernel_rfl) (by kernel_rfl))
      lawWalk)
#print axioms holds

end GeomOwns
end Go.Proofs.Ytbofgldghjdphaa

/-
  GeomRoom: a group gives out no more than its devices have behind the front; a Parity's blocks leave less than one device's room beside. No condition.
-/
import Derived.Test.YtbofgldghjdphaaGeomLaw
namespace Go.Proofs.Ytbofgldghjdphaa
open Go.RowKit Go.ChangeShapes Go.WideShapes Go.ChangeAt Go.Joins

namespace GeomRoom

theorem take_room {k v z : Int} (hk : k = 0 ∨ k = 1 ∧ 3 ≤ v) (hv : v ≤ 8) (z1 : 1 ≤ z) (z2 : z ≤ 4) : 0 ≤ takeOf k v z ∧ takeOf k v z ≤ 2 * z + 1 := by
  rcases hk with rfl | ⟨rfl, h3⟩
  · simp [takeOf]; omega
  · have hv' : v = 3 ∨ v = 4 ∨ v = 5 ∨ v = 6 ∨ v = 7 ∨ v = 8 := by omega
    have hz' : z = 1 ∨ z = 2 ∨ z = 3 ∨ z = 4 := by omega
    rcases hv' with rfl | rfl | rfl | rfl | rfl | rfl <;> rcases hz' with rfl | rfl | rfl | rfl <;> decide
theorem secs_room {k v secs : Int} (h1 : 1 ≤ v) (h2 : 24 ≤ secs) : secsOf k v secs ≤ (secs - 16) * v ∧ secs - 16 ≤ secsOf k v secs := by
  have : (secs - 16) * 1 ≤ (secs - 16) * v := Int.mul_le_mul_of_nonneg_left h1 (by omega)
  unfold secsOf
  split <;> omega

set_option maxHeartbeats 1000000 in
theorem walk_yes {s : Slc} {secs : Int} {n : Nat} (h : goodG s secs) (hn : n < s.len) (w : World) [m : GM s w] :
    Calls Try.prog 4 #[.agg #[.slice s.ad s.len s.cap, .int .i64 secs], .int .i64 (n : Int)] w (Ret (.bool true) w) := by
  have HR := Lib.hid (fun (w : World) [GM s w] => right_yes h w)
  have HS := Lib.hid (fun (w : World) [GM s w] => sectors_yes h hn w)
  have HG := Lib.hid h
  have hw := wide_of h hn
  have hl := h.2.1
  have h3 := h.2.2.1
  have h4 := h.2.2.2.1
  have hcx := m.c0 n hn
  have hcy := m.c1 n hn
  have hix := ix_grp m hn
  haveI hbo := m.isOld hn
  have hr := secs_room (k := s.x n) hw.1 h3
  have hp : 0 ≤ (secs - 16) * s.y n := Int.mul_nonneg (by omega) (by omega)
  have hq : (secs - 16) * s.y n ≤ 9223372036854775807 := by
    have : (secs - 16) * s.y n ≤ 4080 * 8 := Int.mul_le_mul (by omega) (by omega) (by omega) (by omega)
    omega
  clear h
  generalize secsOf (s.x n) (s.y n) secs = a at *
  go_enter Try.func4, Try.ntmps4
  go_wp2_with (first | (go_at_call 8; with_reducible refine (awake_any.at _).mono ?_; rintro e w' ⟨rfl, g, rfl⟩) | (go_at_call 10; (first | (with_reducible refine (Calls.at (HR.out _)).mono ?_)); rintro e w' ⟨rfl, g, rfl⟩) | (go_at_call 11; (first | (with_reducible refine (Calls.at (HS.out _)).mono ?_)); rintro e w' ⟨rfl, g, rfl⟩))
  go_loopw [7] (fun i wr => ∃ k : Int, 1 ≤ k ∧ k ≤ 5 ∧ i = .int .i64 k ∧ ∃ g' : Gr, wr = gr (w.alloc (.cells #[.slice s.ad s.len s.cap, .int .i64 secs] 24)) g')
    (fun i _ => (5 - intOf i).toNat)
  case atStart => exact ⟨1, by omega, by omega, rfl, ex_gr_alloc' _ _ _⟩
  case round =>
    obtain ⟨k, hk1, hk5, rfl, g', rfl⟩ := hrel
    by_cases hlt : k < 5
    · have HT := Lib.hid (fun (w : World) [GM s w] => takes_yes (size := k) HG.out hn hk1 (by omega) w)
      have ht := take_room hw.2.2 hw.2.1 hk1 (by omega : k ≤ 4)
      generalize takeOf (s.x n) (s.y n) k = b at *
      go_wp2_with (go_at_call 9; (first | (with_reducible refine (Calls.at (HT.out _)).mono ?_)); rintro e w' ⟨rfl, g, rfl⟩)
      go_roundw
      case rel => exact ⟨k + 1, by omega, by omega, rfl, _, rfl⟩
      case measure => simp [intOf]; omega
    · obtain rfl : k = 5 := by omega
      go_wp2_with fail
      go_ret
      exact Ret.mk rfl (by (repeat' (first | (with_reducible exact Below.refl _ _) | (with_reducible refine belowGrU ?_ _) | (with_reducible refine belowAlloc ?_ _) | (with_reducible refine Below.setCell ?_ ?_ _) | (with_reducible refine Below.drew ?_) | (simp [go_sem]; done) | (simp [go_sem]; omega))))

theorem walk_no {s : Slc} {secs n : Int} (h : ¬ (goodG s secs ∧ 0 ≤ n ∧ n < s.len)) (hs : s.len ≤ 9223372036854775807) (w : World) [m : GM s w] :
    Calls Try.prog 4 #[.agg #[.slice s.ad s.len s.cap, .int .i64 secs], .int .i64 n] w (Ret (.bool true) w) := by
  have HS := Lib.hid (fun (w : World) [GM s w] => sectors_no h hs w)
  by_cases hg : goodG s secs
  · have HR := Lib.hid (fun (w : World) [GM s w] => right_yes hg w)
    by_cases h0 : 0 ≤ n
    · have h1 : ¬ n < s.len := fun h1 => h ⟨hg, h0, h1⟩
      clear h hg
      go_enter Try.func4, Try.ntmps4
      go_wp2_with (first | (go_at_call 8; with_reducible refine (awake_any.at _).mono ?_; rintro e w' ⟨rfl, g, rfl⟩) | (go_at_call 10; (first | (with_reducible refine (Calls.at (HR.out _)).mono ?_)); rintro e w' ⟨rfl, g, rfl⟩) | (go_at_call 11; (first | (with_reducible refine (Calls.at (HS.out _)).mono ?_)); rintro e w' ⟨rfl, g, rfl⟩))
      go_ret
      exact Ret.mk rfl (by (repeat' (first | (with_reducible exact Below.refl _ _) | (with_reducible refine belowGrU ?_ _) | (with_reducible refine belowAlloc ?_ _) | (with_reducible refine Below.setCell ?_ ?_ _) | (with_reducible refine Below.drew ?_) | (simp [go_sem]; done) | (simp [go_sem]; omega))))

    · clear h hg
      go_enter Try.func4, Try.ntmps4
      go_wp2_with (first | (go_at_call 8; with_reducible refine (awake_any.at _).mono ?_; rintro e w' ⟨rfl, g, rfl⟩) | (go_at_call 10; (first | (with_reducible refine (Calls.at (HR.out _)).mono ?_)); rintro e w' ⟨rfl, g, rfl⟩) | (go_at_call 11; (first | (with_reducible refine (Calls.at (HS.out _)).mono ?_)); rintro e w' ⟨rfl, g, rfl⟩))
      go_ret
      exact Ret.mk rfl (by (repeat' (first | (with_reducible exact Below.refl _ _) | (with_reducible refine belowGrU ?_ _) | (with_reducible refine belowAlloc ?_ _) | (with_reducible refine Below.setCell ?_ ?_ _) | (with_reducible refine Below.drew ?_) | (simp [go_sem]; done) | (simp [go_sem]; omega))))

  · have HR := Lib.hid (fun (w : World) [GM s w] => right_no hg hs w)
    clear h hg
    go_enter Try.func4, Try.ntmps4
    go_wp2_with (first | (go_at_call 8; with_reducible refine (awake_any.at _).mono ?_; rintro e w' ⟨rfl, g, rfl⟩) | (go_at_call 10; (first | (with_reducible refine (Calls.at (HR.out _)).mono ?_)); rintro e w' ⟨rfl, g, rfl⟩) | (go_at_call 11; (first | (with_reducible refine (Calls.at (HS.out _)).mono ?_)); rintro e w' ⟨rfl, g, rfl⟩))
    go_ret
    exact Ret.mk rfl (by (repeat' (first | (with_reducible exact Below.refl _ _) | (with_reducible refine belowGrU ?_ _) | (with_reducible refine belowAlloc ?_ _) | (with_reducible refine Below.setCell ?_ ?_ _) | (with_reducible refine Below.drew ?_) | (simp [go_sem]; done) | (simp [go_sem]; omega))))

theorem lawWalk : LawWalk 4 Try.f4.params := by
  intro H enc W base args ds p hval hA _ _
  rw [Try.params4] at hA hval
  obtain ⟨v0, v1, d0, d1, p0, p1, rfl, rfl, rfl, h0, h1⟩ := trodAll_two hA
  obtain ⟨s, secs, rfl, hs, hm, _⟩ := open_geom (hval 0 24 v0 rfl rfl) h0
  obtain ⟨n, rfl, _, _, _⟩ := open_int Try.underlying3 (hval 1 3 v1 rfl rfl) h1
  haveI := hm
  by_cases h : goodG s secs ∧ 0 ≤ n ∧ n < s.len
  · obtain ⟨hg, hn0, hn⟩ := h
    obtain ⟨k, rfl⟩ := Int.eq_ofNat_of_zero_le hn0
    exact walk_yes hg (by omega) W
  · exact walk_no h hs W

set_option maxRecDepth 100000 in
theorem holds : Rows.GeomRoomSaid :=
  OpenClaim.holds_of_wide 4 Try.f4 rfl rfl rfl rfl rfl rfl rfl ⟨rfl, rfl, rfl, rfl, rfl⟩ rfl rfl rfl rfl rfl (by kernel_rfl) Try.func4 (by kernel_rfl)
    (of_decide_eq_true (by kernel_rfl)) (by unfold Func.isWrapper; first | (rw [if_pos (by decide +kernel)]; kernel_rfl) | (rw [if_neg (by decide +kernel)]; exact ⟨rfl, rfl⟩))
    (fun os started H enc _ => law_lifted (s := Rows.geomRoomSpec) started (by kernel_rfl) Try.func4 rfl rfl Try.underlying4 (by kernel_rfl)
      (fun ds h => by
        rw [Try.params4] at h
        match ds, h with
        | [d1, d2], _ => rfl)
      (ChangeSpec.witness6 (enc := enc) (C := Try.checked) false ⟨#[], #[.agg #[.slice none 0 0, .int .i64 0], .int .i64 0], []⟩ 8 (by kernel_rfl) (by kernel_rfl) (by kernel_rfl) (by kernel_rfl))
      lawWalk)
#print axioms holds

end GeomRoom
end Go.Proofs.Ytbofgldghjdphaa

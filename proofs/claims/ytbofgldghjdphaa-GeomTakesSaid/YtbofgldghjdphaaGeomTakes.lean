/-
  GeomTakes: what a block takes of a Parity is even, and more than its sectors; more sectors take no less. No condition.
-/
import Derived.Test.YtbofgldghjdphaaGeomLaw
namespace Go.Proofs.Ytbofgldghjdphaa
open Go.RowKit Go.ChangeShapes Go.WideShapes Go.ChangeAt Go.Joins

namespace GeomTakes

theorem take_law {k v z : Int} (hk : k = 0 ∨ k = 1 ∧ 3 ≤ v) (hv : v ≤ 8) (z1 : 1 ≤ z) (z2 : z ≤ 4) : (2 ≤ z → takeOf k v (z - 1) ≤ takeOf k v z) ∧ (k = 1 → takeOf k v z % 2 = 0 ∧ z < takeOf k v z) ∧ (k = 0 → takeOf k v z = z) ∧ 0 ≤ takeOf k v z ∧ takeOf k v z ≤ 9 := by
  rcases hk with rfl | ⟨rfl, h3⟩
  · simp [takeOf]; omega
  · have hv' : v = 3 ∨ v = 4 ∨ v = 5 ∨ v = 6 ∨ v = 7 ∨ v = 8 := by omega
    have hz' : z = 1 ∨ z = 2 ∨ z = 3 ∨ z = 4 := by omega
    rcases hv' with rfl | rfl | rfl | rfl | rfl | rfl <;> rcases hz' with rfl | rfl | rfl | rfl <;> decide

theorem walk_yes {s : Slc} {secs z : Int} {n : Nat} (h : goodG s secs) (hn : n < s.len) (z1 : 1 ≤ z) (z2 : z ≤ 4) (w : World) [m : GM s w] :
    Calls Try.prog 3 #[.agg #[.slice s.ad s.len s.cap, .int .i64 secs], .int .i64 (n : Int), .int .i64 z] w (Ret (.bool true) w) := by
  have HR := Lib.hid (fun (w : World) [GM s w] => right_yes h w)
  have HT := Lib.hid (fun (w : World) [GM s w] => takes_yes h hn z1 z2 w)
  have hw := wide_of h hn
  have hl := h.2.1
  have hlaw := take_law hw.2.2 hw.2.1 z1 z2
  have hcx := m.c0 n hn
  have hcy := m.c1 n hn
  have hix := ix_grp m hn
  haveI hbo := m.isOld hn
  by_cases h2 : 2 ≤ z
  · have HT1 := Lib.hid (fun (w : World) [GM s w] => takes_yes (size := z - 1) h hn (by omega) (by omega) w)
    have l1 := hlaw.1 h2
    generalize takeOf (s.x n) (s.y n) z = a at *
    generalize takeOf (s.x n) (s.y n) (z - 1) = b at *
    have HL := Lib.hid hlaw
    have ha0 : 0 ≤ a := hlaw.2.2.2.1
    have ha9 : a ≤ 9 := hlaw.2.2.2.2
    clear hlaw h
    rcases hw.2.2 with hx | ⟨hx, h3w⟩
    · have hx0 : (s.x n == 0) = true := by rw [hx]; rfl
      have he : (a == z) = true := by rw [HL.out.2.2.1 hx]; simp
      clear hx
      go_enter Try.func3, Try.ntmps3
      go_wp2_with (first | (go_at_call 8; with_reducible refine (awake_any.at _).mono ?_; rintro e w' ⟨rfl, g, rfl⟩) | (go_at_call 10; (first | (with_reducible refine (Calls.at (HR.out _)).mono ?_)); rintro e w' ⟨rfl, g, rfl⟩) | (go_at_call 9; (first | (with_reducible refine (Calls.at (HT.out _)).mono ?_) | (with_reducible refine (Calls.at (HT1.out _)).mono ?_)); rintro e w' ⟨rfl, g, rfl⟩))
      go_ret
      exact Ret.mk rfl (by (repeat' (first | (with_reducible exact Below.refl _ _) | (with_reducible refine belowGrU ?_ _) | (with_reducible refine belowAlloc ?_ _) | (with_reducible refine Below.setCell ?_ ?_ _) | (with_reducible refine Below.drew ?_) | (simp [go_sem]; done) | (simp [go_sem]; omega))))

    · have hx0 : (s.x n == 0) = false := by rw [hx]; rfl
      have he := (HL.out.2.1 hx).1
      have he1 := (HL.out.2.1 hx).2
      have he0 : (a % 2 == 0) = true := by simp [he]
      clear hx he
      go_enter Try.func3, Try.ntmps3
      go_wp2_with (first | (go_at_call 8; with_reducible refine (awake_any.at _).mono ?_; rintro e w' ⟨rfl, g, rfl⟩) | (go_at_call 10; (first | (with_reducible refine (Calls.at (HR.out _)).mono ?_)); rintro e w' ⟨rfl, g, rfl⟩) | (go_at_call 9; (first | (with_reducible refine (Calls.at (HT.out _)).mono ?_) | (with_reducible refine (Calls.at (HT1.out _)).mono ?_)); rintro e w' ⟨rfl, g, rfl⟩))
      go_ret
      exact Ret.mk rfl (by (repeat' (first | (with_reducible exact Below.refl _ _) | (with_reducible refine belowGrU ?_ _) | (with_reducible refine belowAlloc ?_ _) | (with_reducible refine Below.setCell ?_ ?_ _) | (with_reducible refine Below.drew ?_) | (simp [go_sem]; done) | (simp [go_sem]; omega))))

  · generalize takeOf (s.x n) (s.y n) z = a at *
    generalize takeOf (s.x n) (s.y n) (z - 1) = b at *
    have HL := Lib.hid hlaw
    have ha0 : 0 ≤ a := hlaw.2.2.2.1
    have ha9 : a ≤ 9 := hlaw.2.2.2.2
    clear hlaw h
    rcases hw.2.2 with hx | ⟨hx, h3w⟩
    · have hx0 : (s.x n == 0) = true := by rw [hx]; rfl
      have he : (a == z) = true := by rw [HL.out.2.2.1 hx]; simp
      clear hx
      go_enter Try.func3, Try.ntmps3
      go_wp2_with (first | (go_at_call 8; with_reducible refine (awake_any.at _).mono ?_; rintro e w' ⟨rfl, g, rfl⟩) | (go_at_call 10; (first | (with_reducible refine (Calls.at (HR.out _)).mono ?_)); rintro e w' ⟨rfl, g, rfl⟩) | (go_at_call 9; (first | (with_reducible refine (Calls.at (HT.out _)).mono ?_)); rintro e w' ⟨rfl, g, rfl⟩))
      go_ret
      exact Ret.mk rfl (by (repeat' (first | (with_reducible exact Below.refl _ _) | (with_reducible refine belowGrU ?_ _) | (with_reducible refine belowAlloc ?_ _) | (with_reducible refine Below.setCell ?_ ?_ _) | (with_reducible refine Below.drew ?_) | (simp [go_sem]; done) | (simp [go_sem]; omega))))

    · have hx0 : (s.x n == 0) = false := by rw [hx]; rfl
      have he := (HL.out.2.1 hx).1
      have he1 := (HL.out.2.1 hx).2
      have he0 : (a % 2 == 0) = true := by simp [he]
      clear hx he
      go_enter Try.func3, Try.ntmps3
      go_wp2_with (first | (go_at_call 8; with_reducible refine (awake_any.at _).mono ?_; rintro e w' ⟨rfl, g, rfl⟩) | (go_at_call 10; (first | (with_reducible refine (Calls.at (HR.out _)).mono ?_)); rintro e w' ⟨rfl, g, rfl⟩) | (go_at_call 9; (first | (with_reducible refine (Calls.at (HT.out _)).mono ?_)); rintro e w' ⟨rfl, g, rfl⟩))
      go_ret
      exact Ret.mk rfl (by (repeat' (first | (with_reducible exact Below.refl _ _) | (with_reducible refine belowGrU ?_ _) | (with_reducible refine belowAlloc ?_ _) | (with_reducible refine Below.setCell ?_ ?_ _) | (with_reducible refine Below.drew ?_) | (simp [go_sem]; done) | (simp [go_sem]; omega))))

theorem walk_no {s : Slc} {secs n z : Int} (h : ¬ (goodG s secs ∧ 0 ≤ n ∧ n < s.len ∧ 1 ≤ z ∧ z ≤ 4)) (hs : s.len ≤ 9223372036854775807) (w : World) [m : GM s w] :
    Calls Try.prog 3 #[.agg #[.slice s.ad s.len s.cap, .int .i64 secs], .int .i64 n, .int .i64 z] w (Ret (.bool true) w) := by
  have HT := Lib.hid (fun (w : World) [GM s w] => takes_no h hs w)
  by_cases hg : goodG s secs
  · have HR := Lib.hid (fun (w : World) [GM s w] => right_yes hg w)
    by_cases h0 : 0 ≤ n
    · by_cases h1 : n < s.len
      · by_cases z1 : 1 ≤ z
        · have z2 : ¬ z ≤ 4 := fun z2 => h ⟨hg, h0, h1, z1, z2⟩
          clear h hg
          go_enter Try.func3, Try.ntmps3
          go_wp2_with (first | (go_at_call 8; with_reducible refine (awake_any.at _).mono ?_; rintro e w' ⟨rfl, g, rfl⟩) | (go_at_call 10; (first | (with_reducible refine (Calls.at (HR.out _)).mono ?_)); rintro e w' ⟨rfl, g, rfl⟩) | (go_at_call 9; (first | (with_reducible refine (Calls.at (HT.out _)).mono ?_)); rintro e w' ⟨rfl, g, rfl⟩))
          go_ret
          exact Ret.mk rfl (by (repeat' (first | (with_reducible exact Below.refl _ _) | (with_reducible refine belowGrU ?_ _) | (with_reducible refine belowAlloc ?_ _) | (with_reducible refine Below.setCell ?_ ?_ _) | (with_reducible refine Below.drew ?_) | (simp [go_sem]; done) | (simp [go_sem]; omega))))

        · clear h hg
          go_enter Try.func3, Try.ntmps3
          go_wp2_with (first | (go_at_call 8; with_reducible refine (awake_any.at _).mono ?_; rintro e w' ⟨rfl, g, rfl⟩) | (go_at_call 10; (first | (with_reducible refine (Calls.at (HR.out _)).mono ?_)); rintro e w' ⟨rfl, g, rfl⟩) | (go_at_call 9; (first | (with_reducible refine (Calls.at (HT.out _)).mono ?_)); rintro e w' ⟨rfl, g, rfl⟩))
          go_ret
          exact Ret.mk rfl (by (repeat' (first | (with_reducible exact Below.refl _ _) | (with_reducible refine belowGrU ?_ _) | (with_reducible refine belowAlloc ?_ _) | (with_reducible refine Below.setCell ?_ ?_ _) | (with_reducible refine Below.drew ?_) | (simp [go_sem]; done) | (simp [go_sem]; omega))))

      · clear h hg
        go_enter Try.func3, Try.ntmps3
        go_wp2_with (first | (go_at_call 8; with_reducible refine (awake_any.at _).mono ?_; rintro e w' ⟨rfl, g, rfl⟩) | (go_at_call 10; (first | (with_reducible refine (Calls.at (HR.out _)).mono ?_)); rintro e w' ⟨rfl, g, rfl⟩) | (go_at_call 9; (first | (with_reducible refine (Calls.at (HT.out _)).mono ?_)); rintro e w' ⟨rfl, g, rfl⟩))
        go_ret
        exact Ret.mk rfl (by (repeat' (first | (with_reducible exact Below.refl _ _) | (with_reducible refine belowGrU ?_ _) | (with_reducible refine belowAlloc ?_ _) | (with_reducible refine Below.setCell ?_ ?_ _) | (with_reducible refine Below.drew ?_) | (simp [go_sem]; done) | (simp [go_sem]; omega))))

    · clear h hg
      go_enter Try.func3, Try.ntmps3
      go_wp2_with (first | (go_at_call 8; with_reducible refine (awake_any.at _).mono ?_; rintro e w' ⟨rfl, g, rfl⟩) | (go_at_call 10; (first | (with_reducible refine (Calls.at (HR.out _)).mono ?_)); rintro e w' ⟨rfl, g, rfl⟩) | (go_at_call 9; (first | (with_reducible refine (Calls.at (HT.out _)).mono ?_)); rintro e w' ⟨rfl, g, rfl⟩))
      go_ret
      exact Ret.mk rfl (by (repeat' (first | (with_reducible exact Below.refl _ _) | (with_reducible refine belowGrU ?_ _) | (with_reducible refine belowAlloc ?_ _) | (with_reducible refine Below.setCell ?_ ?_ _) | (with_reducible refine Below.drew ?_) | (simp [go_sem]; done) | (simp [go_sem]; omega))))

  · have HR := Lib.hid (fun (w : World) [GM s w] => right_no hg hs w)
    clear h hg
    go_enter Try.func3, Try.ntmps3
    go_wp2_with (first | (go_at_call 8; with_reducible refine (awake_any.at _).mono ?_; rintro e w' ⟨rfl, g, rfl⟩) | (go_at_call 10; (first | (with_reducible refine (Calls.at (HR.out _)).mono ?_)); rintro e w' ⟨rfl, g, rfl⟩) | (go_at_call 9; (first | (with_reducible refine (Calls.at (HT.out _)).mono ?_)); rintro e w' ⟨rfl, g, rfl⟩))
    go_ret
    exact Ret.mk rfl (by (repeat' (first | (with_reducible exact Below.refl _ _) | (with_reducible refine belowGrU ?_ _) | (with_reducible refine belowAlloc ?_ _) | (with_reducible refine Below.setCell ?_ ?_ _) | (with_reducible refine Below.drew ?_) | (simp [go_sem]; done) | (simp [go_sem]; omega))))

theorem lawWalk : LawWalk 3 Try.f3.params := by
  intro H enc W base args ds p hval hA _ _
  rw [Try.params3] at hA hval
  obtain ⟨v0, v1, v2, d0, d1, d2, p0, p1, p2, rfl, rfl, rfl, h0, h1, h2⟩ := trodAll_three hA
  obtain ⟨s, secs, rfl, hs, hm, _⟩ := open_geom (hval 0 24 v0 rfl rfl) h0
  obtain ⟨n, rfl, _, _, _⟩ := open_int Try.underlying3 (hval 1 3 v1 rfl rfl) h1
  obtain ⟨z, rfl, _, _, _⟩ := open_int Try.underlying3 (hval 2 3 v2 rfl rfl) h2
  haveI := hm
  by_cases h : goodG s secs ∧ 0 ≤ n ∧ n < s.len ∧ 1 ≤ z ∧ z ≤ 4
  · obtain ⟨hg, hn0, hn, z1, z2⟩ := h
    obtain ⟨k, rfl⟩ := Int.eq_ofNat_of_zero_le hn0
    exact walk_yes hg (by omega) z1 z2 W
  · exact walk_no h hs W

set_option maxRecDepth 100000 in
theorem holds : Rows.GeomTakesSaid :=
  OpenClaim.holds_of_wide 3 Try.f3 rfl rfl rfl rfl rfl rfl rfl ⟨rfl, rfl, rfl, rfl, rfl⟩ rfl rfl rfl rfl rfl (by kernel_rfl) Try.func3 (by kernel_rfl)
    (of_decide_eq_true (by kernel_rfl)) (by unfold Func.isWrapper; first | (rw [if_pos (by decide +kernel)]; kernel_rfl) | (rw [if_neg (by decide +kernel)]; exact ⟨rfl, rfl⟩))
    (fun os started H enc _ => law_lifted (s := Rows.geomTakesSpec) started (by kernel_rfl) Try.func3 rfl rfl Try.underlying4 (by kernel_rfl)
      (fun ds h => by
        rw [Try.params3] at h
        match ds, h with
        | [d1, d2, d3], _ => rfl)
      (ChangeSpec.witness6 (enc := enc) (C := Try.checked) false ⟨#[], #[.agg #[.slice none 0 0, .int .i64 0], .int .i64 0, .int .i64 0], []⟩ 8 (by kernel_rfl) (by kernel_rfl) (by kernel_rfl) (by kernel_rfl))
      lawWalk)
#print axioms holds

end GeomTakes
end Go.Proofs.Ytbofgldghjdphaa

/-
  HealthAdds: what was put into a range is in it, and all that was in it is; nothing beyond. No condition.
-/
import Derived.Test.YtinplfeegmmdcaaHealth
import Derived.Test.YtinplfeegmmdcaaRow
import Derived.Handy
namespace Go.Proofs.Ytinplfeegmmdcaa
open Go.ChangeShapes Go.WideShapes Go.ChangeAt Go.RowKit Go.Joins

namespace HealthAdds

/-- the range behind k additions -/
def X1 (a b : Int) (z : Nat → Int) : Nat → Int × Int
  | 0 => (a, b)
  | k + 1 => (J1 (X1 a b z k).1 (X1 a b z k).2 (z k) (z k), J2 (X1 a b z k).1 (X1 a b z k).2 (z k) (z k))
/-- the least and the greatest of what was put in -/
def lo (a b : Int) (z : Nat → Int) : Nat → Int
  | 0 => R1 a b
  | k + 1 => if okR (z k) (z k) then (if lo a b z k = 0 ∨ z k < lo a b z k then z k else lo a b z k) else lo a b z k
def hi (a b : Int) (z : Nat → Int) : Nat → Int
  | 0 => R2 a b
  | k + 1 => if okR (z k) (z k) then imax (hi a b z k) (z k) else hi a b z k

theorem okN_lohi (a b : Int) (z : Nat → Int) (k : Nat) : okN (lo a b z k) (hi a b z k) := by
  induction k with
  | zero => exact okN_R a b
  | succ k ih =>
    simp only [lo, hi]
    by_cases hv : okR (z k) (z k)
    · simp only [hv, if_true]
      left
      rcases ih with h | ⟨h1, h2⟩
      · unfold okR imax at *; split <;> split <;> omega
      · rw [h1, h2]; unfold okR imax at *; split <;> split <;> omega
    · simp only [hv, if_false]; exact ih

theorem R_X (a b : Int) (z : Nat → Int) (k : Nat) : R1 (X1 a b z k).1 (X1 a b z k).2 = lo a b z k ∧ R2 (X1 a b z k).1 (X1 a b z k).2 = hi a b z k := by
  induction k with
  | zero => exact ⟨rfl, rfl⟩
  | succ k ih =>
    have hN := okN_J (X1 a b z k).1 (X1 a b z k).2 (z k) (z k)
    have hL := okN_lohi a b z k
    simp only [X1]
    rw [(R_of_okN hN).1, (R_of_okN hN).2]
    simp only [lo, hi]
    rw [← ih.1, ← ih.2] at hL ⊢
    generalize (X1 a b z k).1 = x at *
    generalize (X1 a b z k).2 = y at *
    by_cases hx : okR x y
    · by_cases hv : okR (z k) (z k)
      · have e1 : R1 x y = x := by simp [R1, hx]
        have e2 : R2 x y = y := by simp [R2, hx]
        simp only [J1, J2, hx, hv, if_true, e1, e2]
        refine ⟨?_, trivial⟩
        unfold okR imin at *
        split <;> split <;> omega
      · simp [J1, J2, R1, R2, hx, hv]
    · by_cases hv : okR (z k) (z k)
      · simp only [J1, J2, R1, R2, hx, hv, if_true, if_false, true_or, true_and]
        unfold okR imax at *
        split <;> omega
      · simp [J1, J2, R1, R2, hx, hv]

theorem has_X (a b : Int) (z : Nat → Int) (k : Nat) (n : Int) : hasB (X1 a b z k).1 (X1 a b z k).2 n = (decide (0 < lo a b z k) && decide (lo a b z k ≤ n) && decide (n ≤ hi a b z k)) := by
  have hN := okN_lohi a b z k
  unfold hasB
  rw [(R_X a b z k).1, (R_X a b z k).2, Bool.eq_iff_iff]
  simp only [Bool.and_eq_true, decide_eq_true_eq]
  unfold okN okR at hN
  omega

/-- what is in stays in -/
theorem mono1 (a b : Int) (z : Nat → Int) (k : Nat) (n : Int) (h : 0 < lo a b z k ∧ lo a b z k ≤ n ∧ n ≤ hi a b z k) : 0 < lo a b z (k + 1) ∧ lo a b z (k + 1) ≤ n ∧ n ≤ hi a b z (k + 1) := by
  simp only [lo, hi]
  by_cases hv : okR (z k) (z k)
  · simp only [hv, if_true]
    unfold okR imax at *
    split <;> split <;> omega
  · simp only [hv, if_false]; exact h
theorem mono (a b : Int) (z : Nat → Int) (j k : Nat) (hjk : j ≤ k) (n : Int) (h : 0 < lo a b z j ∧ lo a b z j ≤ n ∧ n ≤ hi a b z j) : 0 < lo a b z k ∧ lo a b z k ≤ n ∧ n ≤ hi a b z k := by
  induction k with
  | zero => obtain rfl : j = 0 := by omega
            exact h
  | succ k ih =>
    by_cases e : j = k + 1
    · subst e; exact h
    · exact mono1 a b z k n (ih (by omega))
theorem put_in (a b : Int) (z : Nat → Int) (k : Nat) (hv : okR (z k) (z k)) : 0 < lo a b z (k + 1) ∧ lo a b z (k + 1) ≤ z k ∧ z k ≤ hi a b z (k + 1) := by
  have hN := okN_lohi a b z k
  simp only [lo, hi, hv, if_true]
  unfold okN okR imax at *
  split <;> split <;> omega
/-- each that was put in is in -/
theorem has_put (a b : Int) (z : Nat → Int) (len k : Nat) (hk : k < len) (hv : okR (z k) (z k)) : Pure Try.prog 11 #[.agg #[.int .i64 (X1 a b z len).1, .int .i64 (X1 a b z len).2], .int .i64 (z k)] (.bool true) := by
  have := has_any (X1 a b z len).1 (X1 a b z len).2 (z k)
  have h := mono a b z (k + 1) len hk (z k) (put_in a b z k hv)
  rwa [has_X, show (decide (0 < lo a b z len) && decide (lo a b z len ≤ z k) && decide (z k ≤ hi a b z len)) = true by simp; omega] at this
/-- all that was in is in -/
theorem has_kept (a b : Int) (z : Nat → Int) (len : Nat) (n : Int) (h : hasB a b n = true) : hasB (X1 a b z len).1 (X1 a b z len).2 n = true := by
  rw [has_X]
  have := mono a b z 0 len (Nat.zero_le _) n (by
    have h := has_ok.1 h
    simp only [lo, hi, R1, R2, h.1, if_true]
    have h1 := h.1
    unfold okR at h1
    omega)
  simp; omega

set_option maxHeartbeats 4000000 in
theorem walk_short (a b n : Int) (ad : Option Addr) (blk off len cap : Nat) (z : Nat → Int) (w : World) (hlen : len ≤ 100)
    (had : ∀ k, k < len → ad = some ⟨blk, off, none⟩ ∧ blk < w.heap.size) (hc : ∀ k, k < len → w.cell? ⟨blk, off + k, none⟩ = some (.int .i64 (z k))) :
    Calls Try.prog 4 #[.agg #[.int .i64 a, .int .i64 b], .slice ad len cap, .int .i64 n] w (Ret (.bool true) w) := by
  have Hc := Lib.hid hc
  have Had := Lib.hid had
  clear hc had
  have hd : decide ((100 : Int) < (len : Int)) = false := by simp; omega
  go_enter Try.func4, Try.ntmps4
  go_wp2_with (go_at_call 8; refine ((awake_any).at _).mono ?_; rintro e w' ⟨rfl, g0, rfl⟩)
  go_loopw [8] (fun i wr => ∃ k : Nat, k ≤ len ∧ i = .int .i64 k ∧ ∃ g' : Gr, wr = gr ((gr (w.alloc (.cells #[.int .i64 a, .int .i64 b] 23)) g0).alloc (.cells #[.int .i64 (X1 a b z k).1, .int .i64 (X1 a b z k).2] 23)) g')
    (fun i _ => len - (intOf i).toNat)
  case atStart => exact ⟨0, Nat.zero_le _, rfl, ex_gr _⟩
  case round =>
    obtain ⟨k, hk, rfl, g', rfl⟩ := hrel
    by_cases hlt : k < len
    · have hck := Hc.out k hlt
      have hix := ix_int (cap := cap) (Had.out k hlt).1 hlt
      haveI hbo : Old blk w := ⟨(Had.out k hlt).2⟩
      go_wp2_with fail
      refine wp_region_gr_tail2 6 (by kernel_rfl) (by kernel_rfl) ?_
      simp only [List.take_succ_cons, List.take_zero, List.drop_succ_cons, List.drop_zero]
      repeat (go_big_quiet_step (exact (add_any _ _ _).inClass _ _))
      refine wpQuiet_nil ?_
      rintro _ ⟨g2, rfl⟩
      go_wp2_with fail
      go_roundw
      case rel => exact ⟨k + 1, by omega, by go_num, _, rfl⟩
      case measure => simp [intOf]; omega
    · obtain rfl : len = k := by omega
      clear hk hlt
      have Hx := Lib.hid (fun n => has_X a b z len n)
      have Hp := Lib.hid (fun k => has_put a b z len k)
      have Hk := Lib.hid (fun n => has_kept a b z len n)
      generalize (X1 a b z len).1 = x1 at *
      generalize (X1 a b z len).2 = x2 at *
      by_cases hr : okR a b
      all_goals
        first
          | (have hs : okR a b ∧ a ≤ a ∧ a ≤ b := ⟨hr, by omega, hr.2.2⟩
             go_wp2_with (go_at_call 11; with_reducible refine ((has_yes hs).at _).mono ?_; rintro e w' ⟨rfl, g, rfl⟩)
             refine wp_region_gr2 (by kernel_rfl) (by kernel_rfl) ?_
             repeat (go_big_quiet_step (fail))
             refine wpQuiet_nil ?_
             rintro _ ⟨g2, rfl⟩
             go_wp2_with fail)
          | (have hs : ¬ (okR a b ∧ a ≤ a ∧ a ≤ b) := fun h => hr h.1
             go_wp2_with (go_at_call 11; with_reducible refine ((has_no hs).at _).mono ?_; rintro e w' ⟨rfl, g2, rfl⟩))
        go_loopw [9, 10, 11] (fun l h i wr => ∃ k : Nat, k ≤ len ∧ i = .int .i64 k ∧ l = .int .i64 (lo a b z k) ∧ h = .int .i64 (hi a b z k) ∧ ∃ g' : Gr, wr = gr ((gr (w.alloc (.cells #[.int .i64 a, .int .i64 b] 23)) g0).alloc (.cells #[.int .i64 x1, .int .i64 x2] 23)) g')
          (fun _ _ i _ => len - (intOf i).toNat)
        case atStart => exact ⟨0, Nat.zero_le _, rfl, by simp [lo, R1, hr], by simp [hi, R2, hr], _, rfl⟩
        case round =>
          obtain ⟨k, hk, rfl, rfl, rfl, g', rfl⟩ := hrel
          by_cases hlt : k < len
          · have hck := Hc.out k hlt
            have hix := ix_int (cap := cap) (Had.out k hlt).1 hlt
            haveI hbo : Old blk w := ⟨(Had.out k hlt).2⟩
            by_cases hv : okR (z k) (z k)
            · have hp := Hp.out k hlt hv
              have v1 : 1 ≤ z k := hv.1
              have v2 : z k ≤ 4294967295 := hv.2.1
              have e1 := Lib.hid (show lo a b z (k + 1) = if lo a b z k = 0 ∨ z k < lo a b z k then z k else lo a b z k by simp [lo, hv])
              have e2 := Lib.hid (show hi a b z (k + 1) = imax (hi a b z k) (z k) by simp [hi, hv])
              by_cases hz : lo a b z k = 0
              · have hz' : (lo a b z k == 0) = true := by simp [hz]
                have e1' := Lib.hid (show lo a b z (k + 1) = z k by rw [e1.out, if_pos (Or.inl hz)])
                clear hz
                go_wp2_with fail
                refine wp_region_gr2 (by kernel_rfl) (by kernel_rfl) ?_
                repeat (go_big_quiet_step (exact hp.inClass _ _))
                refine wpQuiet_nil ?_
                rintro _ ⟨g2, rfl⟩
                go_wp2_with fail
                go_roundw
                case rel => exact ⟨k + 1, by omega, by go_num, by rw [e1'.out], by rw [e2.out], _, rfl⟩
                case measure => simp [intOf]; omega
              · have hz' : (lo a b z k == 0) = false := by simp [hz]
                clear hz
                by_cases hl : z k < lo a b z k
                · have e1' := Lib.hid (show lo a b z (k + 1) = z k by rw [e1.out, if_pos (Or.inr hl)])
                  go_wp2_with fail
                  refine wp_region_gr2 (by kernel_rfl) (by kernel_rfl) ?_
                  repeat (go_big_quiet_step (exact hp.inClass _ _))
                  refine wpQuiet_nil ?_
                  rintro _ ⟨g2, rfl⟩
                  go_wp2_with fail
                  go_roundw
                  case rel => exact ⟨k + 1, by omega, by go_num, by rw [e1'.out], by rw [e2.out], _, rfl⟩
                  case measure => simp [intOf]; omega
                · have e1' := Lib.hid (show lo a b z (k + 1) = lo a b z k by rw [e1.out, if_neg (by simp at hz'; omega)])
                  go_wp2_with fail
                  refine wp_region_gr2 (by kernel_rfl) (by kernel_rfl) ?_
                  repeat (go_big_quiet_step (exact hp.inClass _ _))
                  refine wpQuiet_nil ?_
                  rintro _ ⟨g2, rfl⟩
                  go_wp2_with fail
                  go_roundw
                  case rel => exact ⟨k + 1, by omega, by go_num, by rw [e1'.out], by rw [e2.out], _, rfl⟩
                  case measure => simp [intOf]; omega
            · have e1 := Lib.hid (show lo a b z (k + 1) = lo a b z k by simp [lo, hv])
              have e2 := Lib.hid (show hi a b z (k + 1) = hi a b z k by simp [hi, hv])
              by_cases v1 : z k < 1
              · go_wp2_with fail
                go_roundw
                case rel => exact ⟨k + 1, by omega, by go_num, by rw [e1.out], by rw [e2.out], _, rfl⟩
                case measure => simp [intOf]; omega
              · have v2 : 4294967295 < z k := by unfold okR at hv; omega
                go_wp2_with fail
                go_roundw
                case rel => exact ⟨k + 1, by omega, by go_num, by rw [e1.out], by rw [e2.out], _, rfl⟩
                case measure => simp [intOf]; omega
          · obtain rfl : len = k := by omega
            clear hk hlt
            have hxn := Hx.out n
            have hkn := Hk.out n
            have kx := has_any x1 x2 n
            have kr := has_any a b n
            rw [hxn] at kx hkn
            clear hxn
            by_cases hP : 0 < lo a b z len ∧ lo a b z len ≤ n ∧ n ≤ hi a b z len
            · obtain ⟨q1, q2, q3⟩ := hP
              simp only [q1, q2, q3, decide_true, Bool.and_self] at kx
              clear hkn
              by_cases hrn : hasB a b n = true
              · rw [hrn] at kr
                clear hrn
                go_wp2_with (go_at_call 11; (first | (with_reducible refine (kx.at _).mono ?_) | (with_reducible refine (kr.at _).mono ?_)); rintro e w' ⟨rfl, gi, rfl⟩)
                go_ret
                refine Ret.mk rfl ?_
                (repeat' (first | (with_reducible exact Below.refl _ _) | (with_reducible refine belowGrU ?_ _) | (with_reducible refine belowAlloc ?_ _) | (with_reducible refine Below.setCell ?_ ?_ _) | (with_reducible refine Below.drew ?_) | (simp [go_sem]; done) | (simp [go_sem]; omega)))
              · simp only [Bool.not_eq_true] at hrn
                rw [hrn] at kr
                clear hrn
                go_wp2_with (go_at_call 11; (first | (with_reducible refine (kx.at _).mono ?_) | (with_reducible refine (kr.at _).mono ?_)); rintro e w' ⟨rfl, gi, rfl⟩)
                go_ret
                refine Ret.mk rfl ?_
                (repeat' (first | (with_reducible exact Below.refl _ _) | (with_reducible refine belowGrU ?_ _) | (with_reducible refine belowAlloc ?_ _) | (with_reducible refine Below.setCell ?_ ?_ _) | (with_reducible refine Below.drew ?_) | (simp [go_sem]; done) | (simp [go_sem]; omega)))
            · have hf : (decide (0 < lo a b z len) && decide (lo a b z len ≤ n) && decide (n ≤ hi a b z len)) = false := by
                rw [← Bool.not_eq_true]; simp only [Bool.and_eq_true, decide_eq_true_eq]; omega
              have hrn : hasB a b n = false := by
                rw [← Bool.not_eq_true]; intro h; have := hkn h; rw [hf] at this; cases this
              rw [hf] at kx
              rw [hrn] at kr
              clear hf hrn hkn
              go_wp2_with (go_at_call 11; (first | (with_reducible refine (kx.at _).mono ?_) | (with_reducible refine (kr.at _).mono ?_)); rintro e w' ⟨rfl, gi, rfl⟩)
              all_goals
                go_ret
                refine Ret.mk (congrArg Value.bool (by simp; try omega)) ?_
                (repeat' (first | (with_reducible exact Below.refl _ _) | (with_reducible refine belowGrU ?_ _) | (with_reducible refine belowAlloc ?_ _) | (with_reducible refine Below.setCell ?_ ?_ _) | (with_reducible refine Below.drew ?_) | (simp [go_sem]; done) | (simp [go_sem]; omega)))

theorem walk_long (a b n : Int) (ad : Option Addr) (len cap : Nat) (w : World) (hlen : 100 < len) (hm : len ≤ maxLen) :
    Calls Try.prog 4 #[.agg #[.int .i64 a, .int .i64 b], .slice ad len cap, .int .i64 n] w (Ret (.bool true) w) := by
  unfold maxLen at hm
  have hd : decide ((100 : Int) < (len : Int)) = true := by simp; omega
  go_enter Try.func4, Try.ntmps4
  go_wp2_with (go_at_call 8; refine ((awake_any).at _).mono ?_; rintro e w' ⟨rfl, g, rfl⟩)
  go_ret
  refine Ret.mk rfl ?_
  (repeat' (first | (with_reducible exact Below.refl _ _) | (with_reducible refine belowGrU ?_ _) | (with_reducible refine belowAlloc ?_ _) | (with_reducible refine Below.setCell ?_ ?_ _) | (with_reducible refine Below.drew ?_) | (simp [go_sem]; done) | (simp [go_sem]; omega)))

theorem lawWalk : LawWalk 4 Try.f4.params := by
  intro H enc W base args ds p hval hA _ _
  rw [Try.params4] at hA hval
  obtain ⟨v0, v1, v2, d0, d1, d2, p0, p1, p2, rfl, rfl, rfl, h0, h1, h2⟩ := trodAll_three hA
  obtain ⟨a, b, rfl⟩ := open_rng (hval 0 23 v0 rfl rfl) h0
  obtain ⟨ad, blk, off, len, cap, z, rfl, hm, had, hc⟩ := open_il (hval 1 28 v1 rfl rfl) h1
  obtain ⟨n, rfl, _, _, _⟩ := open_int Try.underlying3 (hval 2 3 v2 rfl rfl) h2
  by_cases hl : len ≤ 100
  · exact walk_short a b n ad blk off len cap z W hl had hc
  · exact walk_long a b n ad len cap W (by omega) hm

set_option maxRecDepth 100000 in
theorem holds : Rows.HealthAddsSaid :=
  OpenClaim.holds_of_wide 4 Try.f4 rfl rfl rfl rfl rfl rfl rfl ⟨rfl, rfl, rfl, rfl, rfl⟩ rfl rfl rfl rfl rfl (by kernel_rfl) Try.func4 (by kernel_rfl)
    (of_decide_eq_true (by kernel_rfl)) (by unfold Func.isWrapper; first | (rw [if_pos (by decide +kernel)]; kernel_rfl) | (rw [if_neg (by decide +kernel)]; exact ⟨rfl, rfl⟩))
    (fun os started H enc _ => law_lifted (s := Rows.healthAddsSpec) started (by kernel_rfl) Try.func4 rfl rfl Try.underlying4 (by kernel_rfl)
      (fun ds h => by
        rw [Try.params4] at h
        match ds, h with
        | [d1, d2, d3], _ => rfl)
      (ChangeSpec.witness6 (enc := enc) (C := Try.checked) false ⟨#[], #[.agg #[.int .i64 0, .int .i64 0], .slice none 0 0, .int .i64 0], []⟩ 8 (by kernel_rfl) (by kernel_rfl) (by kernel_rfl) (by kernel_rfl))
      lawWalk)
#print axioms holds

end HealthAdds
end Go.Proofs.Ytinplfeegmmdcaa

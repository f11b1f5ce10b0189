/-
  HealthLeast: a range behind additions begins and ends with something that was put into it; it has no less than before. No condition.
-/
import Derived.Test.YtinplfeegmmdcaaHealthAdds
import Derived.Deep.RegionWith
import Derived.Deep.DeepCutAuto
namespace Go.Proofs.Ytinplfeegmmdcaa
open Go.ChangeShapes Go.WideShapes Go.ChangeAt Go.RowKit Go.Joins

namespace HealthLeast
open HealthAdds (X1)

/-- what is in stays in, by the range itself -/
theorem keeps {x y v : Int} (h : okR x y) : okR (J1 x y v v) (J2 x y v v) ∧ J1 x y v v ≤ x ∧ y ≤ J2 x y v v := by
  unfold J1 J2
  by_cases hv : okR v v
  · simp only [h, hv, if_true]
    unfold okR imin imax at *
    split <;> split <;> omega
  · simp only [h, hv, if_true, if_false]; exact ⟨trivial, by omega, by omega⟩

/-- was the bound put in: by the range, or as one of the first k -/
def lowB (r : Bool) (z : Nat → Int) (x : Int) : Nat → Bool
  | 0 => r
  | k + 1 => lowB r z x k || (z k == x)
theorem lowB_mono {r : Bool} {z : Nat → Int} {x : Int} {j k : Nat} (hjk : j ≤ k) (h : lowB r z x j = true) : lowB r z x k = true := by
  induction k with
  | zero => obtain rfl : j = 0 := by omega
            exact h
  | succ k ih =>
    by_cases e : j = k + 1
    · subst e; exact h
    · simp [lowB, ih (by omega)]
theorem lowB_of {r : Bool} {z : Nat → Int} {x : Int} {k : Nat} (h : r = true ∨ ∃ j, j < k ∧ z j = x) : lowB r z x k = true := by
  rcases h with h | ⟨j, hj, he⟩
  · exact lowB_mono (Nat.zero_le _) h
  · exact lowB_mono (j := j + 1) hj (by simp [lowB, he])
/-- the first and the last, behind names -/
def L1 (a b x : Int) (z : Nat → Int) (k : Nat) : Bool := lowB (decide (okR a b) && (x == a)) z x k
def L2 (a b x : Int) (z : Nat → Int) (k : Nat) : Bool := lowB (decide (okR a b) && (x == b)) z x k
theorem L1_succ (a b x : Int) (z : Nat → Int) (k : Nat) : L1 a b x z (k + 1) = (L1 a b x z k || (z k == x)) := rfl
theorem L2_succ (a b x : Int) (z : Nat → Int) (k : Nat) : L2 a b x z (k + 1) = (L2 a b x z k || (z k == x)) := rfl
theorem bound (a b : Int) (z : Nat → Int) (k : Nat) (h : okR (X1 a b z k).1 (X1 a b z k).2) :
    ((okR a b ∧ (X1 a b z k).1 = a) ∨ ∃ j, j < k ∧ z j = (X1 a b z k).1) ∧ ((okR a b ∧ (X1 a b z k).2 = b) ∨ ∃ j, j < k ∧ z j = (X1 a b z k).2) := by
  induction k with
  | zero => exact ⟨Or.inl ⟨h, rfl⟩, Or.inl ⟨h, rfl⟩⟩
  | succ k ih =>
    simp only [X1] at h ⊢
    generalize (X1 a b z k).1 = x at *
    generalize (X1 a b z k).2 = y at *
    by_cases hx : okR x y
    · obtain ⟨i1, i2⟩ := ih hx
      by_cases hv : okR (z k) (z k)
      · simp only [J1, J2, hx, hv, if_true]
        unfold imin imax
        constructor
        · split
          · exact Or.inr ⟨k, by omega, rfl⟩
          · rcases i1 with i1 | ⟨j, hj, e⟩
            · exact Or.inl i1
            · exact Or.inr ⟨j, by omega, e⟩
        · split
          · exact Or.inr ⟨k, by omega, rfl⟩
          · rcases i2 with i2 | ⟨j, hj, e⟩
            · exact Or.inl i2
            · exact Or.inr ⟨j, by omega, e⟩
      · simp only [J1, J2, hx, hv, if_true, if_false]
        constructor
        · rcases i1 with i1 | ⟨j, hj, e⟩
          · exact Or.inl i1
          · exact Or.inr ⟨j, by omega, e⟩
        · rcases i2 with i2 | ⟨j, hj, e⟩
          · exact Or.inl i2
          · exact Or.inr ⟨j, by omega, e⟩
    · by_cases hv : okR (z k) (z k)
      · simp only [J1, J2, R1, R2, hx, hv, if_true, if_false]
        exact ⟨Or.inr ⟨k, by omega, rfl⟩, Or.inr ⟨k, by omega, rfl⟩⟩
      · exfalso
        simp only [J1, J2, R1, R2, hx, hv, if_false] at h
        exact not_ok0 h

set_option maxHeartbeats 8000000 in
theorem walk_short (a b : Int) (ad : Option Addr) (blk off len cap : Nat) (z : Nat → Int) (w : World) (hlen : len ≤ 100)
    (had : ∀ k, k < len → ad = some ⟨blk, off, none⟩ ∧ blk < w.heap.size) (hc : ∀ k, k < len → w.cell? ⟨blk, off + k, none⟩ = some (.int .i64 (z k))) :
    Calls Try.prog 5 #[.agg #[.int .i64 a, .int .i64 b], .slice ad len cap] w (Ret (.bool true) w) := by
  have Hc := Lib.hid hc
  have Had := Lib.hid had
  clear hc had
  have hd : decide ((100 : Int) < (len : Int)) = false := by simp; omega
  go_enter Try.func5, Try.ntmps5
  go_wp2_with (go_at_call 8; refine ((awake_any).at _).mono ?_; rintro e w' ⟨rfl, g0, rfl⟩)
  go_loopw [6] (fun i wr => ∃ k : Nat, k ≤ len ∧ i = .int .i64 k ∧ ∃ g' : Gr, wr = gr ((gr (w.alloc (.cells #[.int .i64 a, .int .i64 b] 23)) g0).alloc (.cells #[.int .i64 (X1 a b z k).1, .int .i64 (X1 a b z k).2] 23)) g')
    (fun i _ => len - (intOf i).toNat)
  case atStart => exact ⟨0, Nat.zero_le _, rfl, ex_gr _⟩
  case round =>
    obtain ⟨k, hk, rfl, g', rfl⟩ := hrel
    by_cases hlt : k < len
    · have hck := Hc.out k hlt
      have hix := ix_int (cap := cap) (Had.out k hlt).1 hlt
      haveI hbo : Old blk w := ⟨(Had.out k hlt).2⟩
      go_upto_region 7 with fail
      go_cut [7] (fun y wx => ∃ g1 g2 : Gr, y = .pointer (some ⟨(gr ((gr (w.alloc (.cells #[.int .i64 a, .int .i64 b] 23)) g0).alloc (.cells #[.int .i64 (X1 a b z k).1, .int .i64 (X1 a b z k).2] 23)) g1).heap.size, 0, none⟩) ∧
        wx = gr ((gr ((gr (w.alloc (.cells #[.int .i64 a, .int .i64 b] 23)) g0).alloc (.cells #[.int .i64 (X1 a b z k).1, .int .i64 (X1 a b z k).2] 23)) g1).alloc (.cells #[.int .i64 (X1 a b z (k + 1)).1, .int .i64 (X1 a b z (k + 1)).2] 23)) g2)
      case first =>
        go_region_with (go_at_call 10; refine ((add_any _ _ _).at _).mono ?_; rintro e w' ⟨rfl, gi, rfl⟩)
        all_goals (go_wp2_with fail; go_meet; first | exact ⟨_, _, rfl, rfl⟩ | exact ⟨_, _, rfl, gr_id _⟩)
      case rest =>
        obtain ⟨g1, g2, rfl, rfl⟩ := hcut
        by_cases hx : okR (X1 a b z k).1 (X1 a b z k).2
        · have hk := keeps (v := z k) hx
          have e0 : okR (X1 a b z k).1 (X1 a b z k).2 ∧ (X1 a b z k).1 ≤ (X1 a b z k).1 ∧ (X1 a b z k).1 ≤ (X1 a b z k).2 := ⟨hx, by omega, hx.2.2⟩
          have e1 : okR (X1 a b z (k + 1)).1 (X1 a b z (k + 1)).2 ∧ (X1 a b z (k + 1)).1 ≤ (X1 a b z k).1 ∧ (X1 a b z k).1 ≤ (X1 a b z (k + 1)).2 := ⟨hk.1, hk.2.1, Int.le_trans hx.2.2 hk.2.2⟩
          have e2 : okR (X1 a b z (k + 1)).1 (X1 a b z (k + 1)).2 ∧ (X1 a b z (k + 1)).1 ≤ (X1 a b z k).2 ∧ (X1 a b z k).2 ≤ (X1 a b z (k + 1)).2 := ⟨hk.1, Int.le_trans hk.2.1 hx.2.2, hk.2.2⟩
          have c0 := has_yes e0
          have c1 := has_yes e1
          have c2 := has_yes e2
          clear hk e0 e1 e2
          go_wp2_with (go_at_call 11; (first | (with_reducible refine (c0.at _).mono ?_) | (with_reducible refine (c1.at _).mono ?_) | (with_reducible refine (c2.at _).mono ?_)); rintro e w' ⟨rfl, gi, rfl⟩)
          go_roundw
          case rel => exact ⟨k + 1, by omega, by go_num, ex_gr_alloc _ _ _ _⟩
          case measure => simp [intOf]; omega
        · have c0 := has_no (n := (X1 a b z k).1) (fun h => hx h.1)
          go_wp2_with (go_at_call 11; with_reducible refine (c0.at _).mono ?_; rintro e w' ⟨rfl, gi, rfl⟩)
          go_roundw
          case rel => exact ⟨k + 1, by omega, by go_num, ex_gr_alloc _ _ _ _⟩
          case measure => simp [intOf]; omega
    · obtain rfl : len = k := by omega
      clear hk hlt
      have Hb := Lib.hid (bound a b z len)
      generalize (X1 a b z len).1 = x1 at *
      generalize (X1 a b z len).2 = x2 at *
      by_cases hx : okR x1 x2
      · have c0 := none_yes hx
        by_cases hr : okR a b
        all_goals
          first
            | (have c1 := has_yes (n := a) ⟨hr, by omega, hr.2.2⟩
               go_wp2_with (go_at_call 9; with_reducible refine (c0.at _).mono ?_; rintro e w' ⟨rfl, gi, rfl⟩)
               refine wp_region_gr2 (by kernel_rfl) (by kernel_rfl) ?_
               repeat (go_big_quiet_step (exact c1.inClass _ _))
               refine wpQuiet_nil ?_
               rintro _ ⟨g2, rfl⟩
               go_wp2_with fail)
            | (have c1 := has_no (n := a) (fun h => hr h.1)
               go_wp2_with (go_at_call 9; with_reducible refine (c0.at _).mono ?_; rintro e w' ⟨rfl, gi, rfl⟩)
               refine wp_region_gr2 (by kernel_rfl) (by kernel_rfl) ?_
               repeat (go_big_quiet_step (exact c1.inClass _ _))
               refine wpQuiet_nil ?_
               rintro _ ⟨g2, rfl⟩
               go_wp2_with fail)
          go_loopw [8, 9, 10] (fun l h i wr => ∃ k : Nat, k ≤ len ∧ i = .int .i64 k ∧ l = .bool (L1 a b x1 z k) ∧ h = .bool (L2 a b x2 z k) ∧
              ∃ g' : Gr, wr = gr ((gr (w.alloc (.cells #[.int .i64 a, .int .i64 b] 23)) g0).alloc (.cells #[.int .i64 x1, .int .i64 x2] 23)) g')
            (fun _ _ i _ => len - (intOf i).toNat)
          case atStart => exact ⟨0, Nat.zero_le _, rfl, by simp [L1, lowB, hr], by simp [L2, lowB, hr], _, rfl⟩
          case round =>
            obtain ⟨k, hk, rfl, rfl, rfl, g', rfl⟩ := hrel
            by_cases hlt : k < len
            · have hck := Hc.out k hlt
              have hix := ix_int (cap := cap) (Had.out k hlt).1 hlt
              haveI hbo : Old blk w := ⟨(Had.out k hlt).2⟩
              clear c0 c1
              rcases hl : L1 a b x1 z k <;> rcases hh : L2 a b x2 z k
              all_goals
                have E1 := Lib.hid (L1_succ a b x1 z k)
                have E2 := Lib.hid (L2_succ a b x2 z k)
                rw [hl] at E1
                rw [hh] at E2
                clear hl hh
                go_wp2_with fail
                refine wp_region_gr2 (by kernel_rfl) (by kernel_rfl) ?_
                repeat (go_big_quiet_step (fail))
                refine wpQuiet_nil ?_
                rintro _ ⟨g3, rfl⟩
                go_wp2_with fail
                refine wp_region_gr2 (by kernel_rfl) (by kernel_rfl) ?_
                repeat (go_big_quiet_step (fail))
                refine wpQuiet_nil ?_
                rintro _ ⟨g4, rfl⟩
                go_wp2_with fail
                go_roundw
                case rel => exact ⟨k + 1, by omega, by go_num, by rw [E1.out]; simp, by rw [E2.out]; simp, _, rfl⟩
                case measure => simp [intOf]; omega
            · obtain rfl : len = k := by omega
              have hl : L1 a b x1 z len = true := by
                refine lowB_of ?_
                rcases (Hb.out hx).1 with ⟨h1, h2⟩ | h
                · exact Or.inl (by simp [h1, h2])
                · exact Or.inr h
              have hh : L2 a b x2 z len = true := by
                refine lowB_of ?_
                rcases (Hb.out hx).2 with ⟨h1, h2⟩ | h
                · exact Or.inl (by simp [h1, h2])
                · exact Or.inr h
              rw [hl, hh]
              go_wp2_with fail
              go_ret
              refine Ret.mk rfl ?_
              (repeat' (first | (with_reducible exact Below.refl _ _) | (with_reducible refine belowGrU ?_ _) | (with_reducible refine belowAlloc ?_ _) | (with_reducible refine Below.setCell ?_ ?_ _) | (with_reducible refine Below.drew ?_) | (simp [go_sem]; done) | (simp [go_sem]; omega)))
      · have c0 := none_no hx
        go_wp2_with (go_at_call 9; with_reducible refine (c0.at _).mono ?_; rintro e w' ⟨rfl, gi, rfl⟩)
        go_ret
        refine Ret.mk rfl ?_
        (repeat' (first | (with_reducible exact Below.refl _ _) | (with_reducible refine belowGrU ?_ _) | (with_reducible refine belowAlloc ?_ _) | (with_reducible refine Below.setCell ?_ ?_ _) | (with_reducible refine Below.drew ?_) | (simp [go_sem]; done) | (simp [go_sem]; omega)))

theorem walk_long (a b : Int) (ad : Option Addr) (len cap : Nat) (w : World) (hlen : 100 < len) (hm : len ≤ maxLen) :
    Calls Try.prog 5 #[.agg #[.int .i64 a, .int .i64 b], .slice ad len cap] w (Ret (.bool true) w) := by
  unfold maxLen at hm
  have hd : decide ((100 : Int) < (len : Int)) = true := by simp; omega
  go_enter Try.func5, Try.ntmps5
  go_wp2_with (go_at_call 8; refine ((awake_any).at _).mono ?_; rintro e w' ⟨rfl, g, rfl⟩)
  go_ret
  refine Ret.mk rfl ?_
  (repeat' (first | (with_reducible exact Below.refl _ _) | (with_reducible refine belowGrU ?_ _) | (with_reducible refine belowAlloc ?_ _) | (with_reducible refine Below.setCell ?_ ?_ _) | (with_reducible refine Below.drew ?_) | (simp [go_sem]; done) | (simp [go_sem]; omega)))

theorem lawWalk : LawWalk 5 Try.f5.params := by
  intro H enc W base args ds p hval hA _ _
  rw [Try.params5] at hA hval
  obtain ⟨v0, v1, d0, d1, p0, p1, rfl, rfl, rfl, h0, h1⟩ := trodAll_two hA
  obtain ⟨a, b, rfl⟩ := open_rng (hval 0 23 v0 rfl rfl) h0
  obtain ⟨ad, blk, off, len, cap, z, rfl, hm, had, hc⟩ := open_il (hval 1 28 v1 rfl rfl) h1
  by_cases hl : len ≤ 100
  · exact walk_short a b ad blk off len cap z W hl had hc
  · exact walk_long a b ad len cap W (by omega) hm

set_option maxRecDepth 100000 in
theorem holds : Rows.HealthLeastSaid :=
  OpenClaim.holds_of_wide 5 Try.f5 rfl rfl rfl rfl rfl rfl rfl ⟨rfl, rfl, rfl, rfl, rfl⟩ rfl rfl rfl rfl rfl (by kernel_rfl) Try.func5 (by kernel_rfl)
    (of_decide_eq_true (by kernel_rfl)) (by unfold Func.isWrapper; first | (rw [if_pos (by decide +kernel)]; kernel_rfl) | (rw [if_neg (by decide +kernel)]; exact ⟨rfl, rfl⟩))
    (fun os started H enc _ => law_lifted (s := Rows.healthLeastSpec) started (by kernel_rfl) Try.func5 rfl rfl Try.underlying4 (by kernel_rfl)
      (fun ds h => by
        rw [Try.params5] at h
        match ds, h with
        | [d1, d2], _ => rfl)
      (ChangeSpec.witness6 (enc := enc) (C := Try.checked) false ⟨#[], #[.agg #[.int .i64 0, .int .i64 0], .slice none 0 0], []⟩ 8 (by kernel_rfl) (by kernel_rfl) (by kernel_rfl) (by kernel_rfl))
      lawWalk)
#print axioms holds

end HealthLeast
end Go.Proofs.Ytinplfeegmmdcaa

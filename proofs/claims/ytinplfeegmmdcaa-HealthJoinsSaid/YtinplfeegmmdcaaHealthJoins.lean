/-
  HealthJoins: joining in any order is the same; joined with itself, or none, it is as it was. No condition.
-/
import Derived.Test.YtinplfeegmmdcaaHealth
import Derived.Test.YtinplfeegmmdcaaRow
namespace Go.Proofs.Ytinplfeegmmdcaa
open Go.ChangeShapes Go.WideShapes Go.ChangeAt Go.RowKit Go.Joins

namespace HealthJoins

theorem J_comm (a b c d : Int) : J1 a b c d = J1 c d a b ∧ J2 a b c d = J2 c d a b := by
  unfold J1 J2 R1 R2 imin imax
  by_cases h1 : okR a b <;> by_cases h2 : okR c d <;> simp [h1, h2]
  constructor <;> (split <;> split <;> omega)
theorem J_self (x y : Int) (h : okN x y) : J1 x y x y = x ∧ J2 x y x y = y := by
  unfold J1 J2 R1 R2 imin imax
  rcases h with h | ⟨rfl, rfl⟩
  · simp [h]
  · simp [not_ok0]
theorem J_none (x y : Int) (h : okN x y) : J1 x y 0 0 = x ∧ J2 x y 0 0 = y := by
  unfold J1 J2 R1 R2
  rcases h with h | ⟨rfl, rfl⟩
  · simp [h, not_ok0]
  · simp [not_ok0]
theorem J_assoc (a b c d e f : Int) : J1 (J1 a b c d) (J2 a b c d) e f = J1 a b (J1 c d e f) (J2 c d e f) ∧ J2 (J1 a b c d) (J2 a b c d) e f = J2 a b (J1 c d e f) (J2 c d e f) := by
  have hm : ∀ {a b c d : Int}, okR a b → okR c d → okR (imin a c) (imax b d) := by
    intro a b c d h1 h2; unfold okR imin imax at *; split <;> split <;> omega
  by_cases h1 : okR a b <;> by_cases h2 : okR c d <;> by_cases h3 : okR e f
  · have m1 := hm h1 h2
    have m2 := hm h2 h3
    simp only [J1, J2, h1, h2, h3, m1, m2, if_true]
    unfold imin imax
    constructor <;> ((repeat' split) <;> omega)
  · have m1 := hm h1 h2
    simp [J1, J2, h1, h2, h3, m1]
  · simp [J1, J2, R1, R2, h1, h2, h3]
  · simp [J1, J2, R1, R2, h1, h2, h3, not_ok0]
  · have m2 := hm h2 h3
    simp [J1, J2, R1, R2, h1, h2, h3, m2]
  all_goals simp [J1, J2, R1, R2, h1, h2, h3, not_ok0]
theorem ok_J (a b c d : Int) : okR (J1 a b c d) (J2 a b c d) ↔ (okR a b ∨ okR c d) := by
  by_cases h1 : okR a b <;> by_cases h2 : okR c d
  · have : okR (imin a c) (imax b d) := by unfold okR imin imax at *; split <;> split <;> omega
    simp [J1, J2, h1, h2, this]
  all_goals simp [J1, J2, R1, R2, h1, h2, not_ok0]

theorem none_of (a b : Int) : Pure Try.prog 9 #[.agg #[.int .i64 a, .int .i64 b]] (.bool (!decide (okR a b))) := by
  by_cases h : okR a b
  · simpa [h] using none_yes h
  · simpa [h] using none_no h

set_option maxHeartbeats 4000000 in
/-- The walk, over what the calls come to. -/
theorem walk_of (a b c d e f X X' Y Y' Z Z' : Int) (na nb : Bool) (w : World)
    (k1 : Pure Try.prog 7 #[.agg #[.int .i64 a, .int .i64 b], .agg #[.int .i64 c, .int .i64 d]] (.agg #[.int .i64 X, .int .i64 X']))
    (k2 : Pure Try.prog 7 #[.agg #[.int .i64 c, .int .i64 d], .agg #[.int .i64 a, .int .i64 b]] (.agg #[.int .i64 X, .int .i64 X']))
    (k3 : Pure Try.prog 7 #[.agg #[.int .i64 X, .int .i64 X'], .agg #[.int .i64 e, .int .i64 f]] (.agg #[.int .i64 Y, .int .i64 Y']))
    (k4 : Pure Try.prog 7 #[.agg #[.int .i64 c, .int .i64 d], .agg #[.int .i64 e, .int .i64 f]] (.agg #[.int .i64 Z, .int .i64 Z']))
    (k5 : Pure Try.prog 7 #[.agg #[.int .i64 a, .int .i64 b], .agg #[.int .i64 Z, .int .i64 Z']] (.agg #[.int .i64 Y, .int .i64 Y']))
    (k6 : Pure Try.prog 7 #[.agg #[.int .i64 X, .int .i64 X'], .agg #[.int .i64 X, .int .i64 X']] (.agg #[.int .i64 X, .int .i64 X']))
    (k7 : Pure Try.prog 7 #[.agg #[.int .i64 X, .int .i64 X'], .agg #[.int .i64 0, .int .i64 0]] (.agg #[.int .i64 X, .int .i64 X']))
    (n1 : Pure Try.prog 9 #[.agg #[.int .i64 X, .int .i64 X']] (.bool (na && nb)))
    (n2 : Pure Try.prog 9 #[.agg #[.int .i64 a, .int .i64 b]] (.bool na))
    (n3 : Pure Try.prog 9 #[.agg #[.int .i64 c, .int .i64 d]] (.bool nb)) :
    Calls Try.prog 3 #[.agg #[.int .i64 a, .int .i64 b], .agg #[.int .i64 c, .int .i64 d], .agg #[.int .i64 e, .int .i64 f]] w (Ret (.bool true) w) := by
  have he := run_eql_rng
  cases na
  all_goals
    simp only [Bool.false_and, Bool.true_and] at n1
    go_enter Try.func3, Try.ntmps3
    go_wp2_with (go_at_call 7; with_reducible refine (k1.at _).mono ?_; rintro e w' ⟨rfl, g, rfl⟩)
    refine wp_region_gr (by kernel_rfl) (by kernel_rfl) ?_
    repeat (go_big_quiet_step (first | (with_reducible exact awake_any.inClass _ _) | (with_reducible exact k1.inClass _ _) | (with_reducible exact k2.inClass _ _) | (with_reducible exact k3.inClass _ _) | (with_reducible exact k4.inClass _ _) | (with_reducible exact k5.inClass _ _) | (with_reducible exact k6.inClass _ _) | (with_reducible exact k7.inClass _ _) | (with_reducible exact n1.inClass _ _) | (with_reducible exact n2.inClass _ _) | (with_reducible exact n3.inClass _ _)))
    refine wpQuiet_nil ?_
    rintro _ ⟨g, rfl⟩
    go_wp2
    go_ret
    refine Ret.mk rfl ?_
    (repeat' (first | (with_reducible exact Below.refl _ _) | (with_reducible refine belowGrU ?_ _) | (with_reducible refine belowAlloc ?_ _) | (with_reducible refine Below.setCell ?_ ?_ _) | (with_reducible refine Below.drew ?_) | (simp [go_sem]; done) | (simp [go_sem]; omega)))

theorem walk (a b c d e f : Int) (w : World) :
    Calls Try.prog 3 #[.agg #[.int .i64 a, .int .i64 b], .agg #[.int .i64 c, .int .i64 d], .agg #[.int .i64 e, .int .i64 f]] w (Ret (.bool true) w) := by
  refine walk_of a b c d e f (J1 a b c d) (J2 a b c d) (J1 a b (J1 c d e f) (J2 c d e f)) (J2 a b (J1 c d e f) (J2 c d e f)) (J1 c d e f) (J2 c d e f) (!decide (okR a b)) (!decide (okR c d)) w
    (join_any _ _ _ _) ?_ ?_ (join_any _ _ _ _) (join_any _ _ _ _) ?_ ?_ ?_ (none_of _ _) (none_of _ _)
  · rw [(J_comm a b c d).1, (J_comm a b c d).2]; exact join_any _ _ _ _
  · rw [← (J_assoc a b c d e f).1, ← (J_assoc a b c d e f).2]; exact join_any _ _ _ _
  · have := join_any (J1 a b c d) (J2 a b c d) (J1 a b c d) (J2 a b c d)
    rwa [(J_self _ _ (okN_J a b c d)).1, (J_self _ _ (okN_J a b c d)).2] at this
  · have := join_any (J1 a b c d) (J2 a b c d) 0 0
    rwa [(J_none _ _ (okN_J a b c d)).1, (J_none _ _ (okN_J a b c d)).2] at this
  · have := none_of (J1 a b c d) (J2 a b c d)
    rwa [show (!decide (okR (J1 a b c d) (J2 a b c d))) = (!decide (okR a b) && !decide (okR c d)) by simp [ok_J]] at this

theorem lawWalk : LawWalk 3 Try.f3.params := by
  intro H enc W base args ds p hval hA _ _
  rw [Try.params3] at hA hval
  obtain ⟨v0, v1, v2, d0, d1, d2, p0, p1, p2, rfl, rfl, rfl, h0, h1, h2⟩ := trodAll_three hA
  obtain ⟨a, b, rfl⟩ := open_rng (hval 0 23 v0 rfl rfl) h0
  obtain ⟨c, d, rfl⟩ := open_rng (hval 1 23 v1 rfl rfl) h1
  obtain ⟨e, f, rfl⟩ := open_rng (hval 2 23 v2 rfl rfl) h2
  exact walk a b c d e f W

set_option maxRecDepth 100000 in
theorem holds : Rows.HealthJoinsSaid :=
  OpenClaim.holds_of_wide 3 Try.f3 rfl rfl rfl rfl rfl rfl rfl ⟨rfl, rfl, rfl, rfl, rfl⟩ rfl rfl rfl rfl rfl (by kernel_rfl) Try.func3 (by kernel_rfl)
    (of_decide_eq_true (by kernel_rfl)) (by unfold Func.isWrapper; first | (rw [if_pos (by decide +kernel)]; kernel_rfl) | (rw [if_neg (by decide +kernel)]; exact ⟨rfl, rfl⟩))
    (fun os started H enc _ => law_lifted (s := Rows.healthJoinsSpec) started (by kernel_rfl) Try.func3 rfl rfl Try.underlying4 (by kernel_rfl)
      (fun ds h => by
        rw [Try.params3] at h
        match ds, h with
        | [d1, d2, d3], _ => rfl)
      (ChangeSpec.witness6 (enc := enc) (C := Try.checked) false ⟨#[], #[.agg #[.int .i64 0, .int .i64 0], .agg #[.int .i64 0, .int .i64 0], .agg #[.int .i64 0, .int .i64 0]], []⟩ 8 (by kernel_rfl) (by kernel_rfl) (by kernel_rfl) (by kernel_rfl))
      lawWalk)
#print axioms holds

end HealthJoins
end Go.Proofs.Ytinplfeegmmdcaa

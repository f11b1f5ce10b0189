/-
  What the functions of package health come to.
-/
import Derived.Test.YtinplfeegmmdcaaChecked
import Derived.Test.YtinplfeegmmdcaaTail
import Derived.ProofKit
import Derived.Lib.SmallJoins
namespace Go.Proofs.Ytinplfeegmmdcaa
open Go.RowKit Go.ChangeShapes Go.WideShapes Go.Joins

/-- a range that is right -/
def okR (a b : Int) : Prop := 1 ≤ a ∧ b ≤ 4294967295 ∧ a ≤ b
instance (a b : Int) : Decidable (okR a b) := by unfold okR; infer_instance
/-- the range, or none -/
def R1 (a b : Int) : Int := if okR a b then a else 0
def R2 (a b : Int) : Int := if okR a b then b else 0

def rv (a b : Int) : Value := .agg #[.int .i64 a, .int .i64 b]

theorem right_any (a b : Int) : Pure Try.prog 15 #[.agg #[.int .i64 a, .int .i64 b]] (.agg #[.int .i64 (R1 a b), .int .i64 (R2 a b)]) := by
  intro w
  by_cases h : okR a b
  · have e1 : R1 a b = a := by simp [R1, h]
    have e2 : R2 a b = b := by simp [R2, h]
    rw [e1, e2]
    clear e1 e2
    obtain ⟨h1, h2, h3⟩ := h
    go_enter Try.func15, Try.ntmps15
    go_wp2
    refine bodyPost_ret (v := .agg #[.int .i64 a, .int .i64 b]) (by simp [results, Try.results15, go_sem]) rfl ⟨rfl, ?_⟩
    exact bel2' _ _ _
  · have e1 : R1 a b = 0 := by simp [R1, h]
    have e2 : R2 a b = 0 := by simp [R2, h]
    rw [e1, e2]
    unfold okR at h
    clear e1 e2
    by_cases h1 : a < 1
    · go_enter Try.func15, Try.ntmps15
      go_wp2
      refine bodyPost_ret (v := .agg #[.int .i64 0, .int .i64 0]) (by simp [results, Try.results15, go_sem]) rfl ⟨rfl, ?_⟩
      exact bel2' _ _ _
    · by_cases h2 : 4294967295 < b
      · go_enter Try.func15, Try.ntmps15
        go_wp2
        refine bodyPost_ret (v := .agg #[.int .i64 0, .int .i64 0]) (by simp [results, Try.results15, go_sem]) rfl ⟨rfl, ?_⟩
        exact bel2' _ _ _
      · have h3 : b < a := by omega
        clear h
        go_enter Try.func15, Try.ntmps15
        go_wp2
        refine bodyPost_ret (v := .agg #[.int .i64 0, .int .i64 0]) (by simp [results, Try.results15, go_sem]) rfl ⟨rfl, ?_⟩
        exact bel2' _ _ _

theorem not_ok0 : ¬ okR 0 0 := by unfold okR; omega
theorem right_yes {a b : Int} (h : okR a b) : Pure Try.prog 15 #[.agg #[.int .i64 a, .int .i64 b]] (.agg #[.int .i64 a, .int .i64 b]) := by
  have := right_any a b
  rwa [show R1 a b = a by simp [R1, h], show R2 a b = b by simp [R2, h]] at this
theorem right_no {a b : Int} (h : ¬ okR a b) : Pure Try.prog 15 #[.agg #[.int .i64 a, .int .i64 b]] (.agg #[.int .i64 0, .int .i64 0]) := by
  have := right_any a b
  rwa [show R1 a b = 0 by simp [R1, h], show R2 a b = 0 by simp [R2, h]] at this

/-- Equality of two ranges. -/
theorem run_eql_rng (w : World) (a b c d : Int) : (binOp .eql 23 (.agg #[.int .i64 a, .int .i64 b]) (.agg #[.int .i64 c, .int .i64 d])).run Try.prog w = .ok (.bool (a == c && b == d)) w := by
  by_cases h1 : a = c <;> by_cases h2 : b = d <;> simp [go_sem, h1, h2]

theorem none_yes {a b : Int} (h : okR a b) : Pure Try.prog 9 #[.agg #[.int .i64 a, .int .i64 b]] (.bool false) := by
  intro w
  have he := run_eql_rng
  have h0 : (a == 0) = false := by unfold okR at h; rw [beq_eq_false_iff_ne]; omega
  go_enter Try.func9, Try.ntmps9
  go_wp2_with (go_at_call 15; refine ((right_yes (by assumption)).at _).mono ?_; rintro e w' ⟨rfl, g, rfl⟩)
  go_ret
  exact ⟨rfl, bel1 _ _ _⟩
theorem none_no {a b : Int} (h : ¬ okR a b) : Pure Try.prog 9 #[.agg #[.int .i64 a, .int .i64 b]] (.bool true) := by
  intro w
  have he := run_eql_rng
  go_enter Try.func9, Try.ntmps9
  go_wp2_with (go_at_call 15; refine ((right_no (by assumption)).at _).mono ?_; rintro e w' ⟨rfl, g, rfl⟩)
  go_ret
  exact ⟨rfl, bel1 _ _ _⟩

theorem join_yy {a b c d : Int} (h1 : okR a b) (h2 : okR c d) :
    Pure Try.prog 7 #[.agg #[.int .i64 a, .int .i64 b], .agg #[.int .i64 c, .int .i64 d]] (.agg #[.int .i64 (imin a c), .int .i64 (imax b d)]) := by
  intro w
  go_enter Try.func7, Try.ntmps7
  go_wp2
  refine wp_region_gr_tail 4 (by kernel_rfl) (by kernel_rfl) ?_
  simp only [List.take_succ_cons, List.take_zero, List.drop_succ_cons, List.drop_zero]
  repeat (quiet_step (exact (right_yes (by assumption)).inClass _ _))
  refine wpQuiet_nil ?_
  rintro _ ⟨g, rfl⟩
  go_wp2_with (go_at_call 9; refine ((none_yes (by assumption)).at _).mono ?_; rintro e w' ⟨rfl, g, rfl⟩)
  refine bodyPost_ret (v := .agg #[.int .i64 (imin a c), .int .i64 (imax b d)]) (by simp [results, Try.results7, go_sem]) rfl ⟨rfl, ?_⟩
  exact bel3 _ _ _ _ _
theorem join_yn {a b c d : Int} (h1 : okR a b) (h2 : ¬ okR c d) :
    Pure Try.prog 7 #[.agg #[.int .i64 a, .int .i64 b], .agg #[.int .i64 c, .int .i64 d]] (.agg #[.int .i64 a, .int .i64 b]) := by
  intro w
  have h0 := not_ok0
  go_enter Try.func7, Try.ntmps7
  go_wp2
  refine wp_region_gr_tail 4 (by kernel_rfl) (by kernel_rfl) ?_
  simp only [List.take_succ_cons, List.take_zero, List.drop_succ_cons, List.drop_zero]
  repeat (quiet_step (first | (with_reducible exact (right_yes (by assumption)).inClass _ _) | (with_reducible exact (right_no (by assumption)).inClass _ _)))
  refine wpQuiet_nil ?_
  rintro _ ⟨g, rfl⟩
  go_wp2_with (go_at_call 9; (first | (with_reducible refine ((none_yes (by assumption)).at _).mono ?_) | (with_reducible refine ((none_no (by assumption)).at _).mono ?_)); rintro e w' ⟨rfl, g, rfl⟩)
  refine bodyPost_ret (v := .agg #[.int .i64 a, .int .i64 b]) (by simp [results, Try.results7, go_sem]) rfl ⟨rfl, ?_⟩
  exact bel3 _ _ _ _ _

theorem join_n {a b c d : Int} (h1 : ¬ okR a b) :
    Pure Try.prog 7 #[.agg #[.int .i64 a, .int .i64 b], .agg #[.int .i64 c, .int .i64 d]] (.agg #[.int .i64 (R1 c d), .int .i64 (R2 c d)]) := by
  intro w
  have h0 := not_ok0
  go_enter Try.func7, Try.ntmps7
  go_wp2
  refine wp_region_gr_tail 4 (by kernel_rfl) (by kernel_rfl) ?_
  simp only [List.take_succ_cons, List.take_zero, List.drop_succ_cons, List.drop_zero]
  repeat (quiet_step (first | (with_reducible exact (right_no (by assumption)).inClass _ _) | (with_reducible exact (right_any _ _).inClass _ _)))
  refine wpQuiet_nil ?_
  rintro _ ⟨g, rfl⟩
  go_wp2_with (go_at_call 9; with_reducible refine ((none_no (by assumption)).at _).mono ?_; rintro e w' ⟨rfl, g, rfl⟩)
  refine bodyPost_ret (v := .agg #[.int .i64 (R1 c d), .int .i64 (R2 c d)]) (by simp [results, Try.results7, go_sem]) rfl ⟨rfl, ?_⟩
  exact bel3 _ _ _ _ _

/-- what Join comes to -/
def J1 (a b c d : Int) : Int := if okR a b then (if okR c d then imin a c else a) else R1 c d
def J2 (a b c d : Int) : Int := if okR a b then (if okR c d then imax b d else b) else R2 c d
theorem join_any (a b c d : Int) :
    Pure Try.prog 7 #[.agg #[.int .i64 a, .int .i64 b], .agg #[.int .i64 c, .int .i64 d]] (.agg #[.int .i64 (J1 a b c d), .int .i64 (J2 a b c d)]) := by
  by_cases h1 : okR a b
  · by_cases h2 : okR c d
    · have := join_yy h1 h2
      rwa [show imin a c = J1 a b c d by simp [J1, h1, h2], show imax b d = J2 a b c d by simp [J2, h1, h2]] at this
    · have := join_yn h1 h2
      rw [show J1 a b c d = a by simp [J1, h1, h2], show J2 a b c d = b by simp [J2, h1, h2]]
      exact this
  · have := join_n (c := c) (d := d) h1
    rwa [show R1 c d = J1 a b c d by simp [J1, h1], show R2 c d = J2 a b c d by simp [J2, h1]] at this

theorem add_any (a b n : Int) :
    Pure Try.prog 10 #[.agg #[.int .i64 a, .int .i64 b], .int .i64 n] (.agg #[.int .i64 (J1 a b n n), .int .i64 (J2 a b n n)]) := by
  intro w
  go_enter Try.func10, Try.ntmps10
  go_wp2_with (go_at_call 7; refine ((join_any _ _ _ _).at _).mono ?_; rintro e w' ⟨rfl, g, rfl⟩)
  refine bodyPost_ret (v := .agg #[.int .i64 (J1 a b n n), .int .i64 (J2 a b n n)]) (by simp [results, Try.results10, go_sem]) rfl ⟨rfl, ?_⟩
  exact bel2 _ _ _ _

/-- what Has comes to -/
def hasB (a b n : Int) : Bool := decide (0 < n) && decide (R1 a b ≤ n) && decide (n ≤ R2 a b)
theorem has_any (a b n : Int) :
    Pure Try.prog 11 #[.agg #[.int .i64 a, .int .i64 b], .int .i64 n] (.bool (hasB a b n)) := by
  intro w
  go_enter Try.func11, Try.ntmps11
  go_wp2_with (go_at_call 15; refine ((right_any _ _).at _).mono ?_; rintro e w' ⟨rfl, g, rfl⟩)
  all_goals
    go_ret
    refine Ret.mk (congrArg Value.bool ?_) (bel1 _ _ _)
    simp only [hasB]
    first | (simp [*]; done) | (simp [*]; omega)

theorem Try.cellsR : Try.prog.cellsOf 23 = 2 := by kernel_rfl
/-- a range that comes in -/
theorem open_rng {H : Type} {enc : TypeId × Value → H} {W : World} {base b0 : Nat} {spare : Nat → Bool} {held : Bool} {v : Value} {d : DataW H} {ps : List MemPlace}
    (hv : Value.okWide Try.prog W .any base 23 v) (h : DataW.Trod enc Try.prog W b0 spare held 23 v d ps) : ∃ a b : Int, v = .agg #[.int .i64 a, .int .i64 b] := by
  obtain ⟨c0, c1, y0, y1, m, rfl, rfl, rfl, hy0, hy1⟩ := open_agg2 Try.underlying23 (by kernel_rfl) Try.cellsR hv h
  obtain ⟨a, e0, _, _⟩ := DataW.trod_int Try.underlying3 hy0
  obtain ⟨b, e1, _, _⟩ := DataW.trod_int Try.underlying3 hy1
  simp at e0 e1
  subst e0 e1
  exact ⟨a, b, rfl⟩

/-! ### the law's own -/

theorem awake_any : Pure Try.prog 8 #[] (.bool true) := by
  intro w
  have h1 : J1 0 0 5 5 = 5 := by decide
  have h2 : J2 0 0 5 5 = 5 := by decide
  have h3 : J1 5 5 3 3 = 3 := by decide
  have h4 : J2 5 5 3 3 = 5 := by decide
  have k1 := add_any 0 0 5
  have k2 := add_any 5 5 3
  rw [h1, h2] at k1
  rw [h3, h4] at k2
  have he := run_eql_rng
  clear h1 h2 h3 h4
  go_enter Try.func8, Try.ntmps8
  go_wp2_with (go_at_call 10; (first | (with_reducible refine (k1.at _).mono ?_) | (with_reducible refine (k2.at _).mono ?_)); rintro e w' ⟨rfl, g, rfl⟩)
  go_ret
  refine Ret.mk rfl ?_
  (repeat' (first | (with_reducible exact Below.refl _ _) | (with_reducible refine belowGrU ?_ _) | (with_reducible refine belowAlloc ?_ _) | (with_reducible refine Below.setCell ?_ ?_ _) | (with_reducible refine Below.drew ?_) | (simp [go_sem]; done) | (simp [go_sem]; omega)))

end Go.Proofs.Ytinplfeegmmdcaa

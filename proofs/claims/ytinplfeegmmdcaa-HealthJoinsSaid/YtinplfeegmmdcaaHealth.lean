/-
  What the functions of package health come to.
-/
import Derived.Test.YtinplfeegmmdcaaChecked
import Derived.Test.YtinplfeegmmdcaaTail
import Derived.ProofKit
import Derived.Lib.SmallJoins
namespace Go.Proofs.Ytinplfeegmmdcaa
open Go.RowKit Go.ChangeShapes Go.WideShapes Go.Joins

/-- a range that is right -/
def okR (a b : Int) : Prop := 1 ≤ a ∧ b ≤ 4294967295 ∧ a ≤ b
instance (a b : Int) : Decidable (okR a b) := by unfold okR; infer_instance
/-- the range, or none -/
def R1 (a b : Int) : Int := if okR a b then a else 0
def R2 (a b : Int) : Int := if okR a b then b else 0

def rv (a b : Int) : Value := .agg #[.int .i64 a, .int .i64 b]

theorem right_any (a b : Int) : Pure Try.prog 15 #[.agg #[.int .i64 a, .int .i64 b]] (.agg #[.int .i64 (R1 a b), .int .i64 (R2 a b)]) := by
  intro w
  by_cases h : okR a b
  · have e1 : R1 a b = a := by simp [R1, h]
    have e2 : R2 a b = b := by simp [R2, h]
    rw [e1, e2]
    clear e1 e2
    obtain ⟨h1, h2, h3⟩ := h
    go_enter Try.func15, Try.ntmps15
    go_wp2
    refine bodyPost_ret (v := .agg #[.int .i64 a, .int .i64 b]) (by simp [results, Try.results15, go_sem]) rfl ⟨rfl, ?_⟩
    exact bel2' _ _ _
  · have e1 : R1 a b = 0 := by simp [R1, h]
    have e2 : R2 a b = 0 := by simp [R2, h]
    rw [e1, e2]
    unfold okR at h
    clear e1 e2
    by_cases h1 : a < 1
    · go_enter Try.func15, Try.ntmps15
      go_wp2
      refine bodyPost_ret (v := .agg #[.int .i64 0, .int .i64 0]) (by simp [results, Try.results15, go_sem]) rfl ⟨rfl, ?_⟩
      exact bel2' _ _ _
    · by_cases h2 : 4294967295 < b
      · go_enter Try.func15, Try.ntmps15
        go_wp2
        refine bodyPost_ret (v := .agg #[.int .i64 0, .int .i64 0]) (by simp [results, Try.results15, go_sem]) rfl ⟨rfl, ?_⟩
        exact bel2' _ _ _
      · have h3 : b < a := by omega
        clear h
        go_enter Try.func15, Try.ntmps15
        go_wp2
        refine bodyPost_ret (v := .agg #[.int .i64 0, .int .i64 0]) (by simp [results, Try.results15, go_sem]) rfl ⟨rfl, ?_⟩
        exact bel2' _ _ _

theorem not_ok0 : ¬ okR 0 0 := by unfold okR; omega
theorem right_yes {a b : Int} (h : okR a b) : Pure Try.prog 15 #[.agg #[.int .i64 a, .int .i64 b]] (.agg #[.int .i64 a, .int .i64 b]) := by
  have := right_any a b
  rwa [show R1 a b = a by simp [R1, h], show R2 a b = b by simp [R2, h]] at this
theorem right_no {a b : Int} (h : ¬ okR a b) : Pure Try.prog 15 #[.agg #[.int .i64 a, .int .i64 b]] (.agg #[.int .i64 0, .int .i64 0]) := by
  have := right_any a b
  rwa [show R1 a b = 0 by simp [R1, h], show R2 a b = 0 by simp [R2, h]] at this

/-- Equality of two ranges. -/
theorem run_eql_rng (w : World) (a b c d : Int) : (binOp .eql 23 (.agg #[.int .i64 a, .int .i64 b]) (.agg #[.int .i64 c, .int .i64 d])).run Try.prog w = .ok (.bool (a == c && b == d)) w := by
  by_cases h1 : a = c <;> by_cases h2 : b = d <;> simp [go_sem, h1, h2]

theorem none_yes {a b : Int} (h : okR a b) : Pure Try.prog 9 #[.agg #[.int .i64 a, .int .i64 b]] (.bool false) := by
  intro w
  have he := run_eql_rng
  have h0 : (a == 0) = false := by unfold okR at h; rw [beq_eq_false_iff_ne]; omega
  go_enter Try.func9, Try.ntmps9
  go_wp2_with (go_at_call 15; refine ((right_yes (by assumption)).at _).mono ?_; rintro e w' ⟨rfl, g, rfl⟩)
  go_ret
  exact ⟨rfl, bel1 _ _ _⟩
theorem none_no {a b : Int} (h : ¬ okR a b) : Pure Try.prog 9 #[.agg #[.int .i64 a, .int .i64 b]] (.bool true) := by
  intro w
  have he := run_eql_rng
  go_enter Try.func9, Try.ntmps9
  go_wp2_with (go_at_call 15; refine ((right_no (by assumption)).at _).mono ?_; rintro e w' ⟨rfl, g, rfl⟩)
  go_ret
  exact ⟨rfl, bel1 _ _ _⟩

theorem join_yy {a b c d : Int} (h1 : okR a b) (h2 : okR c d) :
    Pure Try.prog 7 #[.agg #[.int .i64 a, .int .i64 b], .agg #[.int .i64 c, .int .i64 d]] (.agg #[.int .i64 (imin a c), .int .i64 (imax b d)]) := by
  intro w
  go_enter Try.func7, Try.ntmps7
  go_wp2
  refine wp_region_gr_tail 4 (by kernel_rfl) (by kernel_rfl) ?_
  simp only [List.take_succ_cons, List.take_zero, List.drop_succ_cons, List.drop_zero]
  repeat (quiet_step (exact (right_yes (by assumption)).inClass _ _))
  refine wpQuiet_nil ?_
  rintro _ ⟨g, rfl⟩
  go_wp2_with (go_at_call 9; refine ((none_yes (by assumption)).at _).mono ?_; rintro e w' ⟨rfl, g, rfl⟩)
  refine bodyPost_ret (v := .agg #[.int .i64 (imin a c), .int .i64 (imax b d)]) (by simp [results, Try.results7, go_sem]) rfl ⟨rfl, ?_⟩
  exact bel3 _ _ _ _ _
theorem join_yn {a b c d : Int} (h1 : okR a b) (h2 : ¬ okR c d) :
    Pure Try.prog 7 #[.agg #[.int .i64 a, .int .i64 b], .agg #[.int .i64 c, .int .i64 d]] (.agg #[.int .i64 a, .int .i64 b]) := by
  intro w
  have h0 := not_ok0
  go_enter Try.func7, Try.ntmps7
  go_wp2
  refine wp_region_gr_tail 4 (by kernel_rfl) (by kernel_rfl) ?_
  simp only [List.take_succ_cons, List.take_zero, List.drop_succ_cons, List.drop_zero]
  repeat (quiet_step (first | (with_reducible exact (right_yes (by assumption)).inClass _ _) | (with_reducible exact (right_no (by assumption)).inClass _ _)))
  refine wpQuiet_nil ?_
  rintro _ ⟨g, rfl⟩
  go_wp2_with (go_at_call 9; (first | (with_reducible refine ((none_yes (by assumption)).at _).mono ?_) | (with_reducible refine ((none_no (by assumption)).at _).mono ?_)); rintro e w' ⟨rfl, g, rfl⟩)
  refine bodyPost_ret (v := .agg #[.int .i64 a, .int .i64 b]) (by simp [results, Try.results7, go_sem]) rfl ⟨rfl, ?_⟩
  exact bel3 _ _ _ _ _

theorem join_n {a b c d : Int} (h1 : ¬ okR a b) :
    Pure Try.prog 7 #[.agg #[.int .i64 a, .int .i64 b], .agg #[.int .i64 c, .int .i64 d]] (.agg #[.int .i64 (R1 c d), .int .i64 (R2 c d)]) := by
  intro w
  have h0 := not_ok0
  go_enter Try.func7, Try.ntmps7
  go_wp2
  refine wp_region_gr_tail 4 (by kernel_rfl) (by kernel_rfl) ?_
  simp only [List.take_succ_cons, List.take_zero, List.drop_succ_cons, List.drop_zero]
  repeat (quiet_step (first | (with_reducible exact (right_no (by assumption)).inClass _ _) | (with_reducible exact (right_any _ _).inClass _ _)))
  refine wpQuiet_nil ?_
  rintro _ ⟨g, rfl⟩
  go_wp2_with (go_at_call 9; with_reducible refine ((none_no (by assumption)).at _).mono ?_; rintro e w' ⟨rfl, g, rfl⟩)
  refine bodyPost_ret (v := .agg #[.int .i64 (R1 c d), .int .i64 (R2 c d)]) (by simp [results, Try.results7, go_sem]) rfl ⟨rfl, ?_⟩
  exact bel3 _ _ _ _ _

/-- what Join comes to -/
def J1 (a b c d : Int) : Int := if okR a b then (if okR c d then imin a c else a) else R1 c d
def J2 (a b c d : Int) : Int := if okR a b then (if okR c d then imax b d else b) else R2 c d
theorem join_any (a b c d : Int) :
    Pure Try.prog 7 #[.agg #[.int .i64 a, .int .i64 b], .agg #[.int .i64 c, .int .i64 d]] (.agg #[.int .i64 (J1 a b c d), .int .i64 (J2 a b c d)]) := by
  by_cases h1 : okR a b
  · by_cases h2 : okR c d
    · have := join_yy h1 h2
      rwa [show imin a c = J1 a b c d by simp [J1, h1, h2], show imax b d = J2 a b c d by simp [J2, h1, h2]] at this
    · have := join_yn h1 h2
      rw [show J1 a b c d = a by simp [J1, h1, h2], show J2 a b c d = b by simp [J2, h1, h2]]
      exact this
  · have := join_n (c := c) (d := d) h1
    rwa [show R1 c d = J1 a b c d by simp [J1, h1], show R2 c d = J2 a b c d by simp [J2, h1]] at this

theorem add_any (a b n : Int) :
    Pure Try.prog 10 #[.agg #[.int .i64 a, .int .i64 b], .int .i64 n] (.agg #[.int .i64 (J1 a b n n), .int .i64 (J2 a b n n)]) := by
  intro w
  go_enter Try.func10, Try.ntmps10
  go_wp2_with (go_at_call 7; refine ((join_any _ _ _ _).at _).mono ?_; rintro e w' ⟨rfl, g, rfl⟩)
  refine bodyPost_ret (v := .agg #[.int .i64 (J1 a b n n), .int .i64 (J2 a b n n)]) (by simp [results, Try.results10, go_sem]) rfl ⟨rfl, ?_⟩
  exact bel2 _ _ _ _

/-- what Has comes to -/
def hasB (a b n : Int) : Bool := decide (0 < n) && decide (R1 a b ≤ n) && decide (n ≤ R2 a b)
theorem has_any (a b n : Int) :
    Pure Try.prog 11 #[.agg #[.int .i64 a, .int .i64 b], .int .i64 n] (.bool (hasB a b n)) := by
  intro w
  go_enter Try.func11, Try.ntmps11
  go_wp2_with (go_at_call 15; refine ((right_any _ _).at _).mono ?_; rintro e w' ⟨rfl, g, rfl⟩)
  all_goals
    go_ret
    refine Ret.mk (congrArg Value.bool ?_) (bel1 _ _ _)
    simp only [hasB]
    first | (simp [*]; done) | (simp [*]; omega)

/-- right, or none -/
def okN (a b : Int) : Prop := okR a b ∨ a = 0 ∧ b = 0
theorem okN_R (a b : Int) : okN (R1 a b) (R2 a b) := by unfold okN R1 R2; split <;> simp [*]
theorem okN_J (a b c d : Int) : okN (J1 a b c d) (J2 a b c d) := by
  unfold okN J1 J2
  by_cases h1 : okR a b
  · by_cases h2 : okR c d
    · left
      simp only [h1, h2, if_true]
      unfold okR imin imax at *
      split <;> split <;> omega
    · left; simp [h1, h2]
  · simp only [h1, if_false]; exact okN_R c d
theorem R_of_okN {x y : Int} (h : okN x y) : R1 x y = x ∧ R2 x y = y := by
  rcases h with h | ⟨rfl, rfl⟩
  · simp [R1, R2, h]
  · simp [R1, R2, not_ok0]
theorem has_ok {a b n : Int} : hasB a b n = true ↔ okR a b ∧ a ≤ n ∧ n ≤ b := by
  unfold hasB R1 R2
  by_cases h : okR a b
  · simp only [h, if_true, Bool.and_eq_true, decide_eq_true_eq, true_and]
    unfold okR at h; omega
  · simp only [h, if_false, Bool.and_eq_true, decide_eq_true_eq, false_and, iff_false]; omega
theorem has_yes {a b n : Int} (h : okR a b ∧ a ≤ n ∧ n ≤ b) : Pure Try.prog 11 #[.agg #[.int .i64 a, .int .i64 b], .int .i64 n] (.bool true) := by
  have := has_any a b n
  rwa [has_ok.2 h] at this
theorem has_no {a b n : Int} (h : ¬ (okR a b ∧ a ≤ n ∧ n ≤ b)) : Pure Try.prog 11 #[.agg #[.int .i64 a, .int .i64 b], .int .i64 n] (.bool false) := by
  have := has_any a b n
  rwa [show hasB a b n = false by rw [← Bool.not_eq_true, has_ok]; exact h] at this

theorem Try.cellsI : Try.prog.cellsOf 3 = 1 := by kernel_rfl
/-- a slice of ints that comes in -/
theorem open_il {H : Type} {enc : TypeId × Value → H} {W : World} {base : Nat} {v : Value} {d : DataW H} {ps : List MemPlace}
    (hv : Value.okWide Try.prog W .any base 28 v) (h : DataW.Trod enc Try.prog W 0 (fun _ => true) true 28 v d ps) :
    ∃ (ad : Option Addr) (blk off len cap : Nat) (z : Nat → Int), v = .slice ad len cap ∧ len ≤ maxLen ∧ (∀ k, k < len → ad = some ⟨blk, off, none⟩ ∧ blk < W.heap.size) ∧
      (∀ k, k < len → W.cell? ⟨blk, off + k, none⟩ = some (.int .i64 (z k))) := by
  obtain ⟨a0, len, cap, rfl⟩ := okWide_slice Try.underlying28 hv
  obtain ⟨fuel, hf⟩ := h
  rcases open_ints Try.underlying28 Try.underlying3 Try.cellsI hf with ⟨hcs, hx⟩ | ⟨a, len', cap', zs, hcs, _, hl, hm, hz, hx, hcell, hwz⟩
  · simp [Value.cells] at hcs
    obtain ⟨rfl, rfl, rfl⟩ := hcs
    exact ⟨none, 0, 0, 0, 0, fun _ => 0, rfl, Nat.zero_le _, fun k hk => by omega, fun k hk => by omega⟩
  · simp [Value.cells] at hcs
    obtain ⟨rfl, rfl, rfl⟩ := hcs
    simp only [if_true] at hz
    by_cases hp : 0 < len
    · obtain ⟨b, off, rfl, hc⟩ := ints_at hcell (by omega)
      exact ⟨_, b, off, len, cap, fun k => zs.getD k 0, rfl, by omega, fun k hk => ⟨rfl, World.block_lt_of_cell? _ _ (hc 0 (by omega))⟩, fun k hk => hc k (by omega)⟩
    · exact ⟨_, 0, 0, len, cap, fun _ => 0, rfl, by omega, fun k hk => by omega, fun k hk => by omega⟩
/-- an element's address, in a slice that has one -/
theorem ix_int {ad : Option Addr} {blk off len cap k : Nat} (had : ad = some ⟨blk, off, none⟩) (hk : k < len) (W : World) :
    (Instr.indexAt 28 (.slice ad len cap) (.int .i64 (k : Int))).run Try.prog W = .ok (.pointer (some ⟨blk, off + k, none⟩)) W := by
  subst had
  simp [go_sem, hk]

theorem Try.cellsR : Try.prog.cellsOf 23 = 2 := by kernel_rfl
/-- a range that comes in -/
theorem open_rng {H : Type} {enc : TypeId × Value → H} {W : World} {base b0 : Nat} {spare : Nat → Bool} {held : Bool} {v : Value} {d : DataW H} {ps : List MemPlace}
    (hv : Value.okWide Try.prog W .any base 23 v) (h : DataW.Trod enc Try.prog W b0 spare held 23 v d ps) : ∃ a b : Int, v = .agg #[.int .i64 a, .int .i64 b] := by
  obtain ⟨c0, c1, y0, y1, m, rfl, rfl, rfl, hy0, hy1⟩ := open_agg2 Try.underlying23 (by kernel_rfl) Try.cellsR hv h
  obtain ⟨a, e0, _, _⟩ := DataW.trod_int Try.underlying3 hy0
  obtain ⟨b, e1, _, _⟩ := DataW.trod_int Try.underlying3 hy1
  simp at e0 e1
  subst e0 e1
  exact ⟨a, b, rfl⟩

/-! ### the law's own -/

theorem awake_any : Pure Try.prog 8 #[] (.bool true) := by
  intro w
  have h1 : J1 0 0 5 5 = 5 := by decide
  have h2 : J2 0 0 5 5 = 5 := by decide
  have h3 : J1 5 5 3 3 = 3 := by decide
  have h4 : J2 5 5 3 3 = 5 := by decide
  have k1 := add_any 0 0 5
  have k2 := add_any 5 5 3
  rw [h1, h2] at k1
  rw [h3, h4] at k2
  have he := run_eql_rng
  clear h1 h2 h3 h4
  go_enter Try.func8, Try.ntmps8
  go_wp2_with (go_at_call 10; (first | (with_reducible refine (k1.at _).mono ?_) | (with_reducible refine (k2.at _).mono ?_)); rintro e w' ⟨rfl, g, rfl⟩)
  go_ret
  refine Ret.mk rfl ?_
  (repeat' (first | (with_reducible exact Below.refl _ _) | (with_reducible refine belowGrU ?_ _) | (with_reducible refine belowAlloc ?_ _) | (with_reducible refine Below.setCell ?_ ?_ _) | (with_reducible refine Below.drew ?_) | (simp [go_sem]; done) | (simp [go_sem]; omega)))

end Go.Proofs.Ytinplfeegmmdcaa

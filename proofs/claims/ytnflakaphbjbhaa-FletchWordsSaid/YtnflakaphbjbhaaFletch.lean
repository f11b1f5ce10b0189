/-
  What the laws on sums share: the plain laws of words and sums; the document's examples.
-/
import Derived.Test.YtnflakaphbjbhaaSum
import Derived.Test.YtnflakaphbjbhaaRow
import Derived.ChangeKeysEq
namespace Go.Proofs.Ytnflakaphbjbhaa
open Go.RowKit Go.Sort Go.ChangeShapes Go.WideShapes Go.ChangeAt Go.Joins

/-! ### plain laws -/
theorem ba_ext {a b : ByteArray} (h : a.data.toList = b.data.toList) : a = b := by
  cases a with
  | mk x =>
    cases b with
    | mk y =>
      have : x = y := Array.toList_inj.1 h
      rw [this]
theorem cat_list (a b : ByteArray) : (a ++ b).data.toList = a.data.toList ++ b.data.toList := by simp [ByteArray.data_append]
theorem cat_size (a b : ByteArray) : (a ++ b).size = a.size + b.size := by rw [← size_list, cat_list, List.length_append, size_list, size_list]
theorem padN_zero {s : ByteArray} (h : s.size % 4 = 0) : padN s = 0 := by unfold padN; omega
theorem pad4_id {s : ByteArray} (h : s.size % 4 = 0) : pad4 s = s := by
  refine ba_ext ?_
  rw [pad4_list, padN_zero h]; simp [Lib.repeatL]
theorem pad4_cat {s : ByteArray} (h : s.size % 4 = 0) (t : ByteArray) : pad4 (s ++ t) = s ++ pad4 t := by
  have e : padN (s ++ t) = padN t := by unfold padN; rw [cat_size]; omega
  refine ba_ext ?_
  rw [pad4_list, e, cat_list, cat_list, pad4_list, List.append_assoc]
theorem num_left (s t : ByteArray) (i k : Nat) (h : i + k ≤ s.size) : num (s ++ t) i k = num s i k := by
  unfold num
  rw [cat_list, List.drop_append_of_le_length (by rw [size_list]; omega), List.take_append_of_le_length (by rw [List.length_drop, size_list]; omega)]
theorem num_right (s t : ByteArray) (i k : Nat) : num (s ++ t) (s.size + i) k = num t i k := by
  unfold num
  rw [cat_list, ← size_list, List.drop_append, List.drop_of_length_le (by omega)]
  simp
theorem wordsTo_cat (s t : ByteArray) (h : s.size % 4 = 0) : ∀ n : Nat, wordsTo (s ++ t) (nwords s + n) = wordsTo s (nwords s) ++ wordsTo t n
  | 0 => by
    simp only [Nat.add_zero, wordsTo, List.range_zero, List.map_nil, List.append_nil]
    refine List.map_congr_left fun k hk => ?_
    have := List.mem_range.1 hk
    unfold wordAt
    exact num_left _ _ _ _ (by unfold nwords at this; omega)
  | n + 1 => by
    rw [← Nat.add_assoc, wordsTo_succ, wordsTo_cat s t h n, wordsTo_succ, List.append_assoc]
    congr 2
    unfold wordAt
    rw [show 4 * (nwords s + n) = s.size + 4 * n from by unfold nwords; omega, num_right]
theorem words_cat {s t : ByteArray} (h : s.size % 4 = 0) : wordsL (s ++ t) = wordsL s ++ wordsL t := by
  have e : nwords (s ++ t) = nwords s + nwords t := by unfold nwords; rw [cat_size]; omega
  unfold wordsL
  rw [e, wordsTo_cat s t h]
def sum4 (s : ByteArray) : S4 := sums zero4 (wordsL (pad4 s))
theorem sum4_ok (s : ByteArray) : (sum4 s).ok := sums_ok zero4_ok _
theorem sum4_cat {s : ByteArray} (h : s.size % 4 = 0) (t : ByteArray) : sum4 (s ++ t) = sums (sum4 s) (wordsL (pad4 t)) := by
  unfold sum4
  rw [pad4_cat h, words_cat h, sums_append, pad4_id h]
theorem sum4_pad (s : ByteArray) : sum4 (pad4 s) = sum4 s := by unfold sum4; rw [pad4_id (pad4_mod s)]
theorem sums_a (x : S4) : ∀ ws : List Nat, (sums x ws).a % MM = (x.a + ws.sum) % MM
  | [] => by simp [sums]
  | w :: ws => by
    have := sums_a (x.step w) ws
    show (sums (x.step w) ws).a % MM = _
    rw [this, List.sum_cons]
    simp only [S4.step]
    rw [Nat.add_mod, Nat.mod_mod, ← Nat.add_mod, Nat.add_assoc]
theorem sum4_a (s : ByteArray) : (sum4 s).a = (wordsL (pad4 s)).sum % MM := by
  have h := sums_a zero4 (wordsL (pad4 s))
  have h2 := (sum4_ok s).1
  rw [show sums zero4 (wordsL (pad4 s)) = sum4 s from rfl, Nat.mod_eq_of_lt h2] at h
  rw [h]
  simp [zero4]

/-- equality of sums, as the program tells it -/
theorem run_equal_s4 (w : World) (a b c d e f g h : Nat) : (Op.equalIn 10000 29 (.agg #[.int .u64 (a : Int), .int .u64 (b : Int), .int .u64 (c : Int), .int .u64 (d : Int)]) (.agg #[.int .u64 (e : Int), .int .u64 (f : Int), .int .u64 (g : Int), .int .u64 (h : Int)])).run Try.prog w
    = .ok (decide ((⟨a, b, c, d⟩ : S4) = ⟨e, f, g, h⟩)) w := by
  have hi : ∃ i, Try.prog.info? 27 = some i := Option.isSome_iff_exists.1 (by kernel_rfl)
  obtain ⟨i, hi⟩ := hi
  have hc : Try.prog.cellsOf 27 = 1 := by kernel_rfl
  have hk : Try.prog.plainKey 27 = true := by kernel_rfl
  have hp : ∀ (xs : Array Value) (o : Nat) (v : Value), xs[o]? = some v → (part 27 xs o).run Try.prog w = .ok v w := fun xs o v h => run_part_plain w hk h
  have heq : ∀ x y : Int, (Op.equalIn 9999 27 (.int .u64 x) (.int .u64 y)).run Try.prog w = .ok (x == y) w := fun x y => run_equalIn_int (P := Try.prog) w 9998 27 .u64 .u64 x y Try.underlying27
  have h0 : ∀ xs ys : Array Value, (Op.equalIn 10000 29 (.agg xs) (.agg ys)).run Try.prog w = (Op.eqItems 9999 27 1 xs ys [0, 1, 2, 3]).run Try.prog w := fun xs ys => by
    have := run_equalIn_array (P := Try.prog) w 9999 xs ys Try.underlying29 hi
    rw [hc] at this
    exact this
  rw [h0]
  have p0 : ∀ u x y z : Value, (part 27 #[u, x, y, z] (0 * 1)).run Try.prog w = .ok u w := fun u x y z => hp _ _ _ rfl
  have p1 : ∀ u x y z : Value, (part 27 #[u, x, y, z] (1 * 1)).run Try.prog w = .ok x w := fun u x y z => hp _ _ _ rfl
  have p2 : ∀ u x y z : Value, (part 27 #[u, x, y, z] (2 * 1)).run Try.prog w = .ok y w := fun u x y z => hp _ _ _ rfl
  have p3 : ∀ u x y z : Value, (part 27 #[u, x, y, z] (3 * 1)).run Try.prog w = .ok z w := fun u x y z => hp _ _ _ rfl
  have hbeq : ∀ x y : Nat, ((x : Int) == (y : Int)) = decide (x = y) := fun x y => by
    by_cases h : x = y
    · simp [h]
    · have h2 : ¬ (x : Int) = (y : Int) := by omega
      simp [h, h2]
  simp only [Nat.mul_one] at p0 p1 p2 p3
  by_cases h1 : a = e <;> by_cases h2 : b = f <;> by_cases h3 : c = g <;> by_cases h4 : d = h <;> simp [Op.eqItems, Sem.run_bind, p0, p1, p2, p3, heq, hbeq, h1, h2, h3, h4, Result.andThen]

theorem run_eql_s4 (w : World) (a b c d e f g h : Nat) : (binOp .eql 29 (.agg #[.int .u64 (a : Int), .int .u64 (b : Int), .int .u64 (c : Int), .int .u64 (d : Int)]) (.agg #[.int .u64 (e : Int), .int .u64 (f : Int), .int .u64 (g : Int), .int .u64 (h : Int)])).run Try.prog w
    = .ok (.bool (decide ((⟨a, b, c, d⟩ : S4) = ⟨e, f, g, h⟩))) w := by
  simp [go_sem, run_equal_s4, Result.andThen]
theorem run_neq_s4 (w : World) (a b c d e f g h : Nat) : (binOp .neq 29 (.agg #[.int .u64 (a : Int), .int .u64 (b : Int), .int .u64 (c : Int), .int .u64 (d : Int)]) (.agg #[.int .u64 (e : Int), .int .u64 (f : Int), .int .u64 (g : Int), .int .u64 (h : Int)])).run Try.prog w
    = .ok (.bool (!decide ((⟨a, b, c, d⟩ : S4) = ⟨e, f, g, h⟩))) w := by
  simp [go_sem, run_equal_s4, Result.andThen]

/-- the first of a sum's numbers -/
theorem run_ix0 (w : World) (a b c d : Value) : (Instr.index 29 (.agg #[a, b, c, d]) (.int .i64 0)).run Try.prog w = .ok a w := by
  have hi : ∃ i, Try.prog.info? 27 = some i := Option.isSome_iff_exists.1 (by kernel_rfl)
  obtain ⟨i, hi⟩ := hi
  have hk : Try.prog.plainKey 27 = true := by kernel_rfl
  have hp : (part 27 #[a, b, c, d] 0).run Try.prog w = .ok a w := run_part_plain w hk rfl
  simp [Instr.index, run_underlying Try.underlying29, asIntOf, run_sizeOf w hi, hp]

theorem Sum4_any (s : ByteArray) (hs : s.size < 4611686018427387900) : Pure Try.prog 10 #[.string s] (sum4 s).v := Sum_any s hs

theorem awake_any : Pure Try.prog 8 #[] (.bool true) := by
  intro w
  have c1 : Pure Try.prog 10 #[.string ⟨#[1]⟩] (.agg #[.int .u64 1, .int .u64 1, .int .u64 1, .int .u64 1]) := Sum4_any ⟨#[1]⟩ (by decide)
  have q1 : ∀ W : World, (binOp .eql 29 (.agg #[.int .u64 1, .int .u64 1, .int .u64 1, .int .u64 1]) (.agg #[.int .u64 1, .int .u64 1, .int .u64 1, .int .u64 1])).run Try.prog W = .ok (.bool true) W := fun W => run_eql_s4 W 1 1 1 1 1 1 1 1
  have q2 : ∀ W : World, (binOp .eql 29 (.agg #[.int .u64 3, .int .u64 4, .int .u64 5, .int .u64 6]) (.agg #[.int .u64 3, .int .u64 4, .int .u64 5, .int .u64 6])).run Try.prog W = .ok (.bool true) W := fun W => run_eql_s4 W 3 4 5 6 3 4 5 6
  have c2 : Pure Try.prog 10 #[.string ⟨#[1, 0, 0, 0, 2, 0, 0, 0]⟩] (.agg #[.int .u64 3, .int .u64 4, .int .u64 5, .int .u64 6]) := Sum4_any ⟨#[1, 0, 0, 0, 2, 0, 0, 0]⟩ (by decide)
  go_enter Try.func8, Try.ntmps8
  go_wp2_with (go_at_call 10; (first | (with_reducible refine (c1.at _).mono ?_) | (with_reducible refine (c2.at _).mono ?_)); rintro e w' ⟨rfl, g, rfl⟩)
  go_ret
  exact Ret.mk rfl (by (repeat' (first | (with_reducible exact Below.refl _ _) | (with_reducible refine belowGrU ?_ _) | (with_reducible refine belowAlloc ?_ _) | (with_reducible refine Below.setCell ?_ ?_ _) | (with_reducible refine Below.drew ?_) | (simp [go_sem]; done) | (simp [go_sem]; omega))))

end Go.Proofs.Ytnflakaphbjbhaa

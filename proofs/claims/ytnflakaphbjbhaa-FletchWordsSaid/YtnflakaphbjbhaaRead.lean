/-
  Reading numbers off bytes (package le): Left, number, U32, U64, New, Pad.
-/
import Derived.Laws.BitsLemmas
import Derived.Test.YtnflakaphbjbhaaTail
import Derived.Test.YtnflakaphbjbhaaShelf
namespace Go.Proofs.Ytnflakaphbjbhaa
open Go.RowKit Go.Sort

/-! ### numbers -/
def numL : List UInt8 → Nat
  | [] => 0
  | b :: r => b.toNat + 256 * numL r
theorem numL_append : ∀ a b : List UInt8, numL (a ++ b) = numL a + 256 ^ a.length * numL b
  | [], b => by simp [numL]
  | x :: a, b => by simp only [List.cons_append, numL, numL_append a b, List.length_cons, Nat.pow_succ]; rw [Nat.mul_add, ← Nat.mul_assoc, Nat.mul_comm 256 (256 ^ a.length)]; omega
theorem numL_lt : ∀ l : List UInt8, numL l < 256 ^ l.length
  | [] => by simp [numL]
  | b :: r => by
    have h := numL_lt r
    have hb : b.toNat < 256 := b.toNat_lt
    simp only [numL, List.length_cons, Nat.pow_succ]
    omega
/-- the k bytes from i on, as a number -/
def num (s : ByteArray) (i k : Nat) : Nat := numL ((s.data.toList.drop i).take k)
theorem size_list (s : ByteArray) : s.data.toList.length = s.size := by rw [Array.length_toList]; rfl
theorem num_len (s : ByteArray) (i k : Nat) (h : i + k ≤ s.size) : ((s.data.toList.drop i).take k).length = k := by
  rw [List.length_take, List.length_drop, size_list]; omega
theorem num_zero (s : ByteArray) (i : Nat) : num s i 0 = 0 := by simp [num, numL]
theorem num_lt (s : ByteArray) (i k : Nat) (h : i + k ≤ s.size) : num s i k < 256 ^ k := by
  have := numL_lt ((s.data.toList.drop i).take k)
  rwa [num_len s i k h] at this
theorem num_succ (s : ByteArray) (i k : Nat) (h : i + k < s.size) : num s i (k + 1) = num s i k + 256 ^ k * (s[i + k]'h).toNat := by
  have hl : k < (s.data.toList.drop i).length := by rw [List.length_drop, size_list]; omega
  have e : (s.data.toList.drop i)[k] = s[i + k]'h := by rw [List.getElem_drop]; rfl
  unfold num
  rw [List.take_succ_eq_append_getElem hl, numL_append, ← num, num_len s i k (by omega), e]
  simp [numL]
theorem num_or (s : ByteArray) (i k : Nat) (h : i + k < s.size) (hk : k < 8) :
    bits .or .u64 (num s i k : Int) ((((s[i + k]'h).toNat * 256 ^ k : Nat)) : Int) = (num s i (k + 1) : Int) := by
  have h1 := num_lt s i k (by omega)
  have h2 := num_lt s i (k + 1) (by omega)
  have h3 := num_succ s i k h
  have h4 : (256 : Nat) ^ (k + 1) ≤ 256 ^ 8 := Nat.pow_le_pow_right (by omega) (by omega)
  have hp : (256 : Nat) ^ k = 2 ^ (8 * k) := by rw [show (256 : Nat) = 2 ^ 8 from rfl, ← Nat.pow_mul]
  rw [Nat.mul_comm] at h3
  rw [bits_or_u64_nat _ _ (by omega) (by omega), Nat.or_comm, nat_join (8 * k) _ _ (by rw [hp]; simp) (by omega), Nat.add_comm, h3]

theorem shl_byte (B k : Nat) (hB : B < 256) (hk : k < 8) : IntKind.u64.wrap ((B : Int) * 2 ^ (8 * k)) = ((B * 256 ^ k : Nat) : Int) := by
  have hq : B * 256 ^ k < 256 ^ 8 := Nat.lt_of_lt_of_le (Nat.mul_lt_mul_of_pos_right hB (Nat.pow_pos (by omega))) (by rw [Nat.mul_comm, ← Nat.pow_succ]; exact Nat.pow_le_pow_right (by omega) (by omega))
  have e : (B : Int) * 2 ^ (8 * k) = ((B * 256 ^ k : Nat) : Int) := by
    have hp : (256 : Nat) ^ k = 2 ^ (8 * k) := by rw [show (256 : Nat) = 2 ^ 8 from rfl, ← Nat.pow_mul]
    rw [hp, Int.natCast_mul, Int.natCast_pow]; rfl
  have h8 : (256 : Nat) ^ 8 = 18446744073709551616 := by decide
  rw [e, IntKind.wrap_u64]
  omega

/-- a reader's cells -/
class Rd (b : Nat) (s : ByteArray) (i : Nat) (w : World) : Prop where
  old : Old b w
  c0 : w.cell? ⟨b, 0, none⟩ = some (.string s)
  c1 : w.cell? ⟨b, 1, none⟩ = some (.int .i64 i)
  fr : w.frozen? ⟨b, 1, none⟩ = false
theorem Rd.gr {b : Nat} {s : ByteArray} {i : Nat} {w : World} (h : Rd b s i w) (g : Gr) : Rd b s i (gr w g) := by
  haveI := h.old
  exact ⟨inferInstance, (cell_gr ..).trans h.c0, (cell_gr ..).trans h.c1, (frozen_gr ..).trans h.fr⟩

theorem Left_at {b : Nat} {s : ByteArray} {i : Nat} (hi : i ≤ s.size) (hs : s.size < 4611686018427387904) (w : World) (h : Rd b s i w) :
    Calls Try.prog 27 #[.pointer (some ⟨b, 0, none⟩)] w fun e w' => e = .returned (.int .i64 ((s.size : Int) - i)) ∧ ∃ g : Gr, w' = gr w g := by
  haveI := h.old
  have h0 := h.c0
  have h1 := h.c1
  go_enter Try.func27, Try.ntmps27
  go_wp2_with fail
  refine wp_region_gr (by kernel_rfl) (by kernel_rfl) ?_
  repeat (go_big_quiet_step (fail))
  refine wpQuiet_nil ?_
  rintro _ ⟨g, rfl⟩
  go_wp2_with fail
  go_ret
  exact ⟨rfl, _, rfl⟩

set_option maxHeartbeats 1000000 in
theorem number_at {b : Nat} {s : ByteArray} {i n : Nat} (hn : n ≤ 8) (hi : i + n ≤ s.size) (hs : s.size < 4611686018427387904) (w : World) (h : Rd b s i w) :
    Calls Try.prog 35 #[.pointer (some ⟨b, 0, none⟩), .int .i64 (n : Int)] w fun e w' =>
      e = .returned (.tuple #[.int .u64 (num s i n : Int), .int .i64 0]) ∧ ∃ g : Gr, w' = gr (w.setCell ⟨b, 1, none⟩ (.int .i64 ((i + n : Nat) : Int))) g := by
  haveI := h.old
  have h0 := h.c0
  have h1 := h.c1
  have hf := h.fr
  have c1 := Left_at (by omega) hs w h
  clear h
  go_enter Try.func35, Try.ntmps35
  go_wp2_with (go_at_call 27; with_reducible refine c1.mono ?_; rintro e w' ⟨rfl, g, rfl⟩)
  go_loopw [6, 13] (fun v c wr => ∃ k : Nat, k ≤ n ∧ c = .int .i64 k ∧ v = .int .u64 (num s i k : Int) ∧ ∃ g' : Gr, wr = gr w g')
    (fun _ c _ => n - (intOf c).toNat)
  case atStart => exact ⟨0, Nat.zero_le _, rfl, by rw [num_zero]; rfl, _, rfl⟩
  case round =>
    obtain ⟨k, hk, rfl, rfl, g', rfl⟩ := hrel
    by_cases hlt : k < n
    · have hor := num_or s i k (by omega) (by omega)
      obtain ⟨B, hB⟩ : ∃ B : Nat, (s[i + k]'(by omega)).toNat = B := ⟨_, rfl⟩
      have hB8 : B < 256 := by rw [← hB]; exact UInt8.toNat_lt _
      have hix : ∀ W : World, (Instr.index 9 (.string s) (.int .i64 ((i : Int) + (k : Int)))).run Try.prog W = .ok (.int .u8 (B : Int)) W := fun W => by
        rw [run_index_string (P := Try.prog) W _ s _ _ Try.underlying9, dif_pos (by omega)]
        have e : ((i : Int) + (k : Int)).toNat = i + k := by omega
        simp only [e, hB]
      rw [hB] at hor
      obtain ⟨X, hX⟩ : ∃ X : Nat, num s i k = X := ⟨_, rfl⟩
      obtain ⟨Y, hY⟩ : ∃ Y : Nat, num s i (k + 1) = Y := ⟨_, rfl⟩
      rw [hX, hY] at hor
      rw [hX]
      have HY := Lib.hid hY
      have HO := Lib.hid hor
      clear hX hY hor hB c1
      have hsh : Hid (IntKind.u64.wrap ((B : Int) * 2 ^ (8 * k)) = ((B * 256 ^ k : Nat) : Int)) := shl_byte B k hB8 (by omega)
      go_wp2_with fail
      refine wp_region_gr2 (by kernel_rfl) (by kernel_rfl) ?_
      repeat (go_big_quiet_step (fail))
      refine wpQuiet_nil ?_
      rintro _ ⟨g5, rfl⟩
      go_wp2_with fail
      go_roundw
      case rel => exact ⟨k + 1, by omega, by go_num, by rw [hsh.out, HO.out, HY.out], _, rfl⟩
      case measure => simp [intOf]; omega
    · obtain rfl : n = k := by omega
      go_wp2_with fail
      go_ret2
      exact ⟨rfl, _, rfl⟩

theorem U32_at {b : Nat} {s : ByteArray} {i : Nat} (hi : i + 4 ≤ s.size) (hs : s.size < 4611686018427387904) (w : World) (h : Rd b s i w) :
    Calls Try.prog 28 #[.pointer (some ⟨b, 0, none⟩)] w fun e w' =>
      e = .returned (.tuple #[.int .i64 (num s i 4 : Int), .int .i64 0]) ∧ ∃ g : Gr, w' = gr (w.setCell ⟨b, 1, none⟩ (.int .i64 ((i + 4 : Nat) : Int))) g := by
  have c1 : Calls Try.prog 35 #[.pointer (some ⟨b, 0, none⟩), .int .i64 4] w fun e w' => e = .returned (.tuple #[.int .u64 (num s i 4 : Int), .int .i64 0]) ∧ ∃ g : Gr, w' = gr (w.setCell ⟨b, 1, none⟩ (.int .i64 ((i + 4 : Nat) : Int))) g := number_at (n := 4) (by omega) hi hs w h
  have hl := num_lt s i 4 hi
  obtain ⟨X, hX⟩ : ∃ X : Nat, num s i 4 = X := ⟨_, rfl⟩
  rw [hX] at c1 hl ⊢
  clear hX
  go_enter Try.func28, Try.ntmps28
  go_wp2_with (go_at_call 35; with_reducible refine c1.mono ?_; rintro e w' ⟨rfl, g, rfl⟩)
  go_ret2
  exact ⟨by go_num, _, rfl⟩
theorem U64_at {b : Nat} {s : ByteArray} {i : Nat} (hi : i + 8 ≤ s.size) (hs : s.size < 4611686018427387904) (w : World) (h : Rd b s i w) :
    Calls Try.prog 23 #[.pointer (some ⟨b, 0, none⟩)] w fun e w' =>
      e = .returned (.tuple #[.int .u64 (num s i 8 : Int), .int .i64 0]) ∧ ∃ g : Gr, w' = gr (w.setCell ⟨b, 1, none⟩ (.int .i64 ((i + 8 : Nat) : Int))) g := by
  have c1 : Calls Try.prog 35 #[.pointer (some ⟨b, 0, none⟩), .int .i64 8] w fun e w' => e = .returned (.tuple #[.int .u64 (num s i 8 : Int), .int .i64 0]) ∧ ∃ g : Gr, w' = gr (w.setCell ⟨b, 1, none⟩ (.int .i64 ((i + 8 : Nat) : Int))) g := number_at (n := 8) (by omega) hi hs w h
  obtain ⟨X, hX⟩ : ∃ X : Nat, num s i 8 = X := ⟨_, rfl⟩
  rw [hX] at c1 ⊢
  clear hX
  go_enter Try.func23, Try.ntmps23
  go_wp2_with (go_at_call 35; with_reducible refine c1.mono ?_; rintro e w' ⟨rfl, g, rfl⟩)
  go_ret2
  exact ⟨rfl, _, rfl⟩

theorem New_at (s : ByteArray) (w : World) :
    Calls Try.prog 13 #[.string s] w fun e w' => e = .returned (.pointer (some ⟨w.heap.size, 0, none⟩)) ∧ w' = w.alloc (.cells #[.string s, .int .i64 0] 50) := by
  go_enter Try.func13, Try.ntmps13
  go_wp2_with fail
  go_ret
  exact ⟨rfl, rfl⟩

end Go.Proofs.Ytnflakaphbjbhaa

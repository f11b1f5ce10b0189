/-
  What the functions of package le come to: numbers laid in bytes, the lowest byte first.
-/
import Derived.Test.YtnflakaphbjbhaaChecked
import Derived.Test.YtnflakaphbjbhaaTail
import Derived.Laws.BytesArg
import Derived.Handy
namespace Go.Proofs.Ytnflakaphbjbhaa
open Go.RowKit

/-- byte number j of a number -/
def byteN (X : Int) (j : Nat) : Int := X / 2 ^ (8 * j) % 256
/-- its n lowest bytes -/
def leB (X : Int) (n : Nat) : List Int := (List.range n).map (byteN X)
def leS (X : Int) (n : Nat) : ByteArray := strOfNums (leB X n)
theorem leB_succ (X : Int) (k : Nat) : leB X (k + 1) = leB X k ++ [byteN X k] := by simp [leB, List.range_succ]
theorem leB_len (X : Int) (k : Nat) : (leB X k).length = k := by simp [leB]

theorem Try.infoB : (Try.prog.info? 5).map (fun i => (i.zero, i.size, i.bytes)) = some (some (.int .u8 0), 1, 1) := by kernel_rfl

set_option maxHeartbeats 1000000 in
theorem laid_any (X : Int) (n : Nat) (hn : n ≤ 8) :
    Pure Try.prog 36 #[.int .u64 X, .int .i64 (n : Int)] (.string (leS X n)) := by
  intro w
  obtain ⟨i0, hi, hz0, hz1, hz2⟩ := info_parts Try.infoB
  go_enter Try.func36, Try.ntmps36
  go_wp2_with fail
  go_loopw [5, 8] (fun v i wr => ∃ k : Nat, k ≤ n ∧ i = .int .i64 k ∧ wr.ownsRow w.heap.size 5 1 v k ((leB X k).map (Value.int .u8)) ∧ Below w.heap.size w wr)
    (fun _ i _ => n - (intOf i).toNat)
  case atStart => exact ⟨0, Nat.zero_le _, rfl, World.ownsRow_nil _ _ _ _, Below.refl _ _⟩
  case round =>
    obtain ⟨k, hk, rfl, hown, hbel⟩ := hrel
    have hsz := hbel.size
    by_cases hlt : k < n
    · go_wp2_with (at_builtin; refine wpList_append_own _ rfl _ _ 25 rfl w.heap.size 5 i0 (.int .u8 0) 1 1 Try.underlying25 hi hz0 hz1 hz2 rfl (by decide) _ _ _ rfl (hown.alloc _) ⟨wr.heap.size, 0, none⟩ 1 1 [.int .u8 (X / 2 ^ (8 * k) % 256)] rfl rfl ?c1 ?c2 ?c3 ?c4 ?c5 ?_)
      case c1 => exact cell_one_new _ _ _
      case c2 => intro u hu; simp at hu; subst hu; rfl
      case c3 => unfold maxLen; omega
      case c4 => omega
      case c5 => simp; omega
      intro v' w1 hown' hgrow _
      have hrow : w1.ownsRow w.heap.size 5 1 v' (k + 1) ((leB X (k + 1)).map (Value.int .u8)) := by
        rw [leB_succ, List.map_append]; exact hown'
      have hb1 : Below w.heap.size w w1 := (hbel.alloc hsz _).grown hgrow (by simp; omega) (fun j hj => (hown.lt j hj).1)
      clear hown' hgrow hown hbel
      go_wp2_with fail
      go_roundw
      case rel => exact ⟨k + 1, by omega, by go_num, hrow, hb1⟩
      case measure => simp [intOf]; omega
    · obtain rfl : n = k := by omega
      have hconv : ∀ W : World, (convert 25 9 u5).run Try.prog wr = .ok (.string (leS X n)) wr := by
        intro _
        rcases hown.2 with ⟨rfl, h0⟩ | ⟨gg, cap, cur, rfl, hbg, hgg, hle, hcap, hcs, htake⟩
        · subst h0
          exact run_convert_bytes_nil wr 25 5 Try.underlying25 Try.underlying5 _ _ 9 Try.underlying9
        · refine run_convert_bytes_arg wr 25 5 Try.underlying25 Try.underlying5 gg 0 n cap (leB X n) (leB_len X n) ?_ 9 Try.underlying9
          intro j hj
          have := hown.cells (g := gg) rfl j (.int .u8 ((leB X n).getD j 0)) (by rw [List.getElem?_map, List.getD_eq_getElem?_getD, List.getElem?_eq_getElem (by rw [leB_len]; exact hj)]; rfl)
          have hadd : (⟨gg, 0, none⟩ : Addr).add j = ⟨gg, 0 + j, none⟩ := by unfold Addr.add; split <;> simp_all
          rw [hadd] at this
          exact this
      have hconv' := hconv wr
      clear hconv
      go_wp2_with fail
      go_ret
      exact ⟨rfl, hbel⟩

@[go_sem] theorem leS_size (X : Int) (n : Nat) : (leS X n).size = n := by rw [leS, strOfNums_size, leB_len]


/-! ### the bytes tell the number -/
theorem toList_inj {a b : ByteArray} (h : a.data.toList = b.data.toList) : a = b := by
  cases a; cases b
  simp at h
  rw [h]
theorem leS_list (X : Int) (n : Nat) : (leS X n).data.toList = (leB X n).map fun b => UInt8.ofNat b.toNat := rfl
theorem byteN_bd (X : Int) (j : Nat) : 0 ≤ byteN X j ∧ byteN X j < 256 := by
  unfold byteN
  exact ⟨Int.emod_nonneg _ (by omega), Int.emod_lt_of_pos _ (by omega)⟩
theorem byteN_inj {X Y : Int} {j : Nat} (h : UInt8.ofNat (byteN X j).toNat = UInt8.ofNat (byteN Y j).toNat) : byteN X j = byteN Y j := by
  have h1 := congrArg UInt8.toNat h
  have hx := byteN_bd X j
  have hy := byteN_bd Y j
  simp only [UInt8.toNat_ofNat'] at h1
  omega
theorem byteN_all {X Y : Int} {n : Nat} (h : (leS X n) = (leS Y n)) (j : Nat) (hj : j < n) : byteN X j = byteN Y j := by
  have h1 := congrArg (fun s : ByteArray => s.data.toList[j]?) h
  simp only [leS_list, leB] at h1
  rw [List.getElem?_map, List.getElem?_map, List.getElem?_map, List.getElem?_map, List.getElem?_range hj] at h1
  simp only [Option.map_some, Option.some.injEq] at h1
  exact byteN_inj h1
/-- the number that its bytes say -/
theorem le_sum4 (X : Int) (h0 : 0 ≤ X) (h1 : X ≤ 4294967295) : X = byteN X 0 + 256 * byteN X 1 + 65536 * byteN X 2 + 16777216 * byteN X 3 := by
  simp only [byteN, Nat.mul_zero, Nat.mul_one, Nat.reduceMul, Int.pow_zero, Int.reducePow, Int.ediv_one]
  omega
theorem leS4_inj {X Y : Int} (hX : 0 ≤ X) (hX1 : X ≤ 4294967295) (hY : 0 ≤ Y) (hY1 : Y ≤ 4294967295) (h : leS X 4 = leS Y 4) : X = Y := by
  have e0 := byteN_all h 0 (by omega)
  have e1 := byteN_all h 1 (by omega)
  have e2 := byteN_all h 2 (by omega)
  have e3 := byteN_all h 3 (by omega)
  have := le_sum4 X hX hX1
  have := le_sum4 Y hY hY1
  omega
theorem append_inj_size {a b c d : ByteArray} (h : a ++ b = c ++ d) (hs : a.size = c.size) : a = c ∧ b = d := by
  have h1 := congrArg (fun s : ByteArray => s.data.toList) h
  simp only [ByteArray.data_append, Array.toList_append] at h1
  have hl : a.data.toList.length = c.data.toList.length := by rw [Array.length_toList, Array.length_toList]; exact hs
  obtain ⟨h2, h3⟩ := List.append_inj h1 hl
  exact ⟨toList_inj h2, toList_inj h3⟩

end Go.Proofs.Ytnflakaphbjbhaa

/-
  Plain laws of written lines: the runes of ASCII text, its parts, numbers as they are written and read.
-/
import Derived.Laws.RangeString
import Derived.Test.YtajionjffijffaaNearP
namespace Go.Proofs.Ytajionjffijffaa
open Go.RowKit Go.Sort

/-! ### ASCII text -/
def Ascii (l : List UInt8) : Prop := ∀ b ∈ l, b.toNat < 128
theorem runesAt_ascii (l : List UInt8) (h : Ascii l) : ∀ (f i : Nat), l.length ≤ f + i → runesF (ofL l) f i = (l.drop i).map (·.toNat)
  | 0, i, hf => by
    rw [runesF, List.drop_of_length_le (by omega)]
    rfl
  | f + 1, i, hf => by
    rw [runesF, ofL_size]
    by_cases hi : i < l.length
    · rw [if_pos hi, List.drop_eq_getElem_cons hi, List.map_cons]
      have hs : i < (ofL l).size := by rw [ofL_size]; exact hi
      have he : ((ofL l)[i]'hs) = l[i] := by simp [ofL]; rfl
      rw [decode_ascii (ofL l) i hs (by rw [he]; exact h _ (List.getElem_mem hi)), he, runesAt_ascii l h f (i + 1) (by omega)]
      rfl
    · rw [if_neg hi, List.drop_of_length_le (by omega)]
      rfl
theorem runes_ascii (l : List UInt8) (h : Ascii l) : runes (ofL l) = l.map (·.toNat) := by
  unfold runes runesAt
  rw [runesAt_ascii l h _ 0 (by rw [ofL_size]; omega), List.drop_zero]
theorem encode_ascii (b : UInt8) (h : b.toNat < 128) : Utf8.encode (b.toNat : Int) = ofL [b] := by
  have hv : Utf8.valid (b.toNat : Int) = true := by
    unfold Utf8.valid
    simp
    omega
  unfold Utf8.encode
  rw [hv]
  simp only [if_true, Int.toNat_natCast]
  rw [if_pos (by omega)]
  apply ba_ext
  simp [ofL]

/-! ### parts -/
theorem pfold_word : ∀ (l : List UInt8), Ascii l → (32 : UInt8) ∉ l → ∀ (ps : List (ByteArray × Int)) (p : ByteArray) (a A : Int),
    pfold (ps ++ [(p, a)], A) (l.map (·.toNat)) = (ps ++ [(p ++ ofL l, a)], A + l.length)
  | [], _, _, ps, p, a, A => by
    have : p ++ ofL [] = p := ba_ext (by rw [cat_list, ofL_list, List.append_nil])
    simp [pfold, this]
  | b :: l, h, hn, ps, p, a, A => by
    have hb : b.toNat < 128 := h b List.mem_cons_self
    have h32 : ¬ b.toNat = 32 := fun e => hn (by
      have : b = 32 := UInt8.toNat_inj.1 e
      rw [this]; exact List.mem_cons_self)
    have e : pfold (ps ++ [(p, a)], A) ((b :: l).map (·.toNat)) = pfold (pstep (ps ++ [(p, a)], A) b.toNat) (l.map (·.toNat)) := rfl
    have hs : pstep (ps ++ [(p, a)], A) b.toNat = (ps ++ [(p ++ ofL [b], a)], A + 1) := by
      unfold pstep
      rw [if_neg h32]
      simp only [List.dropLast_concat, List.getLastD_concat, encode_ascii b hb]
    rw [e, hs, pfold_word l (fun x hx => h x (List.mem_cons_of_mem _ hx)) (fun hx => hn (List.mem_cons_of_mem _ hx))]
    have ea : p ++ ofL [b] ++ ofL l = p ++ ofL (b :: l) := ba_ext (by simp only [cat_list, ofL_list, List.append_assoc, List.singleton_append])
    rw [ea, List.length_cons]
    congr 1
    push_cast
    omega
theorem pfold_append (st : PState) (a b : List Nat) : pfold st (a ++ b) = pfold (pfold st a) b := by unfold pfold; rw [List.foldl_append]
theorem pfold_more (l : List UInt8) (h : Ascii l) (hn : (32 : UInt8) ∉ l) (ps : List (ByteArray × Int)) (A : Int) :
    pfold (ps, A) ((32 :: l).map (·.toNat)) = (ps ++ [(ofL l, A + 2)], A + 1 + l.length) := by
  have e : pfold (ps, A) ((32 :: l).map (·.toNat)) = pfold (pstep (ps, A) 32) (l.map (·.toNat)) := rfl
  have hs : pstep (ps, A) 32 = (ps ++ [(⟨#[]⟩, A + 2)], A + 1) := rfl
  rw [e, hs, pfold_word l h hn]
  have : (⟨#[]⟩ : ByteArray) ++ ofL l = ofL l := ba_ext (by rw [cat_list]; rfl)
  rw [this]

/-! ### numbers -/
theorem digits_append : ∀ (a b : List Nat) (n : Nat), digitsS (a ++ b) n = (digitsS a n).bind (digitsS b)
  | [], b, n => rfl
  | r :: a, b, n => by
    rw [List.cons_append, digitsS, digitsS]
    split
    · rfl
    · exact digits_append a b _
theorem digit_nat (d : Nat) (h : d < 10) : (UInt8.ofNat (48 + d)).toNat = 48 + d := by
  rw [UInt8.toNat_ofNat']
  exact Nat.mod_eq_of_lt (by omega)
theorem digits_dec (n : Nat) : digitsS ((decN n).map (·.toNat)) 0 = some n := by
  induction n using Nat.strongRecOn with
  | ind n ih =>
    rw [decN]
    split
    · rename_i h
      rw [List.map_singleton, digit_nat n h, digitsS, if_neg (by omega), digitsS]
      congr 1
      omega
    · rw [List.map_append, digits_append, ih (n / 10) (by omega), List.map_singleton, digit_nat _ (Nat.mod_lt _ (by omega))]
      show digitsS _ _ = _
      rw [digitsS, if_neg (by have := Nat.mod_lt n (show 0 < 10 by omega); omega), digitsS]
      congr 1
      omega
theorem decN_bytes (n : Nat) : ∀ b ∈ decN n, 48 ≤ b.toNat ∧ b.toNat ≤ 57 := by
  induction n using Nat.strongRecOn with
  | ind n ih =>
    rw [decN]
    split
    · rename_i h
      intro b hb
      rw [List.mem_singleton.1 hb, digit_nat n h]
      omega
    · intro b hb
      rcases List.mem_append.1 hb with hb | hb
      · exact ih (n / 10) (by omega) b hb
      · have := Nat.mod_lt n (show 0 < 10 by omega)
        rw [List.mem_singleton.1 hb, digit_nat _ this]
        omega
theorem decN_ne (n : Nat) : decN n ≠ [] := by
  rw [decN]
  split <;> simp
theorem numS_dec (n : Int) (h1 : -9007199254740992 ≤ n) (h2 : n ≤ 9007199254740992) : numS (ofL (decI n)) = (n, true) := by
  have hl : (decN n.natAbs).length ≤ 18 := decN_len20 17 n.natAbs (by have : (10 : Nat) ^ 18 = 1000000000000000000 := rfl; omega)
  have hne := List.length_pos_iff.2 (decN_ne n.natAbs)
  have ha : Ascii (decN n.natAbs) := fun b hb => by have := decN_bytes _ b hb; omega
  have hd := digits_dec n.natAbs
  have hr := runes_ascii _ ha
  have ht : Lib.trimPrefix (ofL (decI n)).data.toList [45] = decN n.natAbs := by
    rw [ofL_list]
    unfold decI Lib.trimPrefix Lib.hasPrefix
    split
    · simp
    · have : ([45] : List UInt8).isPrefixOf (decN n.natAbs) = false := by
        cases hdn : decN n.natAbs with
        | nil => rfl
        | cons b l =>
          have hb := decN_bytes n.natAbs b (by rw [hdn]; exact List.mem_cons_self)
          have : ((45 : UInt8) == b) = false := by
            rw [beq_eq_false_iff_ne]
            intro e
            rw [← e] at hb
            have : (45 : UInt8).toNat = 45 := rfl
            omega
          simp [List.isPrefixOf, this]
      rw [if_neg (by rw [this]; simp)]
  unfold numS
  rw [ht]
  simp only
  rw [if_neg (by rw [ofL_size]; omega), hr, hd]
  unfold numTail
  simp only
  have hsame : ((ofL (decN n.natAbs)).toList == (ofL (decI n)).toList) = decide (0 ≤ n) := by
    rw [ByteArray.toList_eq, ByteArray.toList_eq, ofL_list, ofL_list]
    unfold decI
    by_cases hn : n < 0
    · rw [if_pos hn]
      have : decN n.natAbs ≠ 45 :: decN n.natAbs := fun e => by have := congrArg List.length e; simp at this
      rw [beq_eq_false_iff_ne.2 this]
      symm
      simp only [decide_eq_false_iff_not]
      omega
    · rw [if_neg hn]
      simp only [BEq.rfl]
      symm
      simp only [decide_eq_true_eq]
      omega
  rw [hsame]
  by_cases hn : 0 ≤ n
  · have e : ((n.natAbs : Nat) : Int) = n := by omega
    simp [hn, e]
  · have e : -((n.natAbs : Nat) : Int) = n := by omega
    simp [hn, e]

end Go.Proofs.Ytajionjffijffaa

/-
  The plain law of FletchWords: one word changed, or two different ones changed to each other's, and the sum is another.
-/
import Derived.Test.YtnflakaphbjbhaaReadNo
import Derived.Laws.Bits64
namespace Go.Proofs.Ytnflakaphbjbhaa
open Go.RowKit Go.Sort

/-! ### the second of a sum's numbers -/
def wsum : List Nat → Nat
  | [] => 0
  | w :: ws => (ws.length + 1) * w + wsum ws
theorem sums_b : ∀ (ws : List Nat) (x : S4), (sums x ws).b % MM = (x.b + ws.length * x.a + wsum ws) % MM
  | [], x => by simp [sums, wsum]
  | w :: ws, x => by
    have h := sums_b ws (x.step w)
    show (sums (x.step w) ws).b % MM = _
    rw [h]
    simp only [S4.step, wsum, List.length_cons]
    have e1 : (x.b + (x.a + w) % MM) % MM = (x.b + (x.a + w)) % MM := by rw [Nat.add_mod, Nat.mod_mod, ← Nat.add_mod]
    rw [e1]
    have e2 : ∀ (n A B C : Nat), (B % MM + n * (A % MM) + C) % MM = (B + n * A + C) % MM := fun n A B C => by
      have h1 : (n * (A % MM)) % MM = (n * A) % MM := by rw [Nat.mul_mod, Nat.mod_mod, ← Nat.mul_mod]
      rw [Nat.add_mod, Nat.add_mod (B % MM), h1, Nat.mod_mod, ← Nat.add_mod B, ← Nat.add_mod]
    rw [e2]
    congr 1
    rw [Nat.add_mul, Nat.add_mul, Nat.mul_add]
    omega
theorem wsum_set : ∀ (ws : List Nat) (a v : Nat) (h : a < ws.length), wsum (ws.set a v) + (ws.length - a) * ws[a] = wsum ws + (ws.length - a) * v
  | w :: ws, 0, v, _ => by simp [wsum]; omega
  | w :: ws, a + 1, v, h => by
    have ih := wsum_set ws a v (by simpa using h)
    simp only [List.set_cons_succ, wsum, List.length_set, List.length_cons, List.getElem_cons_succ, Nat.add_sub_add_right]
    omega
theorem sum_set : ∀ (ws : List Nat) (a v : Nat) (h : a < ws.length), (ws.set a v).sum + ws[a] = ws.sum + v
  | w :: ws, 0, v, _ => by simp; omega
  | w :: ws, a + 1, v, h => by
    have ih := sum_set ws a v (by simpa using h)
    simp only [List.set_cons_succ, List.sum_cons, List.getElem_cons_succ]
    omega

theorem sums_one (ws : List Nat) (a v : Nat) (h : a < ws.length) (hw : ws[a] < 4294967296) (hv : v < 4294967296) (hne : v ≠ ws[a]) : sums zero4 (ws.set a v) ≠ sums zero4 ws := fun e => by
  have h1 := sums_a zero4 ws
  have h2 := sums_a zero4 (ws.set a v)
  rw [e, h1] at h2
  have h3 := sum_set ws a v h
  simp only [zero4, MM] at h2
  omega

theorem int_small (x y : Int) (hx : -1000 < x ∧ x < 1000) (hy : -4294967296 < y ∧ y < 4294967296) : -4294967296000 ≤ x * y ∧ x * y ≤ 4294967296000 := by
  have h : (x * y).natAbs = x.natAbs * y.natAbs := Int.natAbs_mul x y
  have h2 : x.natAbs * y.natAbs ≤ 1000 * 4294967296 := Nat.mul_le_mul (by omega) (by omega)
  omega

theorem sums_two (ws : List Nat) (a b : Nat) (ha : a < ws.length) (hb : b < ws.length) (hl : ws.length < 1000) (hwa : ws[a] < 4294967296) (hwb : ws[b] < 4294967296) (hne : ws[a] ≠ ws[b]) :
    sums zero4 ((ws.set a ws[b]).set b ws[a]) ≠ sums zero4 ws := fun e => by
  have hab : a ≠ b := fun h => hne (by simp [h])
  have h1 := sums_b ws zero4
  have h2 := sums_b ((ws.set a ws[b]).set b ws[a]) zero4
  rw [e, h1] at h2
  have h3 := wsum_set ws a ws[b] ha
  have h4 := wsum_set (ws.set a ws[b]) b ws[a] (by simpa using hb)
  have h5 : (ws.set a ws[b])[b]'(by simpa using hb) = ws[b] := by rw [List.getElem_set_ne hab]
  rw [h5, List.length_set] at h4
  obtain ⟨A, hA⟩ : ∃ A, ws[a] = A := ⟨_, rfl⟩
  obtain ⟨B, hB⟩ : ∃ B, ws[b] = B := ⟨_, rfl⟩
  rw [hA, hB] at h2 h3 h4 hne
  rw [hA] at hwa
  rw [hB] at hwb
  obtain ⟨S0, hS0⟩ : ∃ S, wsum ws = S := ⟨_, rfl⟩
  obtain ⟨S1, hS1⟩ : ∃ S, wsum (ws.set a B) = S := ⟨_, rfl⟩
  obtain ⟨S2, hS2⟩ : ∃ S, wsum ((ws.set a B).set b A) = S := ⟨_, rfl⟩
  rw [hS0, hS1] at h3
  rw [hS1, hS2] at h4
  rw [hS0, hS2] at h2
  obtain ⟨n, hn⟩ : ∃ n, ws.length = n := ⟨_, rfl⟩
  rw [hn] at h3 h4 ha hb hl
  clear hS0 hS1 hS2 hA hB hn e h1 h5
  have k3 : (S1 : Int) + ((n : Int) - a) * A = S0 + ((n : Int) - a) * B := by
    have := congrArg (Nat.cast (R := Int)) h3
    rw [Int.natCast_add, Int.natCast_add, Int.natCast_mul, Int.natCast_mul, Int.natCast_sub (by omega)] at this
    exact this
  have k4 : (S2 : Int) + ((n : Int) - b) * B = S1 + ((n : Int) - b) * A := by
    have := congrArg (Nat.cast (R := Int)) h4
    rw [Int.natCast_add, Int.natCast_add, Int.natCast_mul, Int.natCast_mul, Int.natCast_sub (by omega)] at this
    exact this
  have k5 : (S2 : Int) - S0 = ((b : Int) - a) * ((B : Int) - A) := by
    simp only [Int.sub_mul, Int.mul_sub] at k3 k4 ⊢
    omega
  have k6 := int_small ((b : Int) - a) ((B : Int) - A) (by omega) (by omega)
  have k7 : ((b : Int) - a) * ((B : Int) - A) ≠ 0 := Int.mul_ne_zero (by omega) (by omega)
  simp only [zero4, MM] at h2
  generalize ((b : Int) - a) * ((B : Int) - A) = D at *
  omega

/-! ### bytes and words -/
def bt (l : List UInt8) (i : Nat) : UInt8 := l.getD i 0
theorem bt_get (l : List UInt8) (i : Nat) (h : i < l.length) : bt l i = l[i] := by simp [bt, List.getD, h]
theorem bt_set (l : List UInt8) (i j : Nat) (v : UInt8) (h : i < l.length) : bt (l.set i v) j = if j = i then v else bt l j := by
  by_cases e : j = i
  · subst e
    simp [bt, List.getD, h]
  · have e2 : ¬ i = j := fun h => e h.symm
    simp [bt, List.getD, e, e2]
def ofL (l : List UInt8) : ByteArray := ⟨l.toArray⟩
theorem ofL_list (l : List UInt8) : (ofL l).data.toList = l := by simp [ofL]
theorem ofL_size (l : List UInt8) : (ofL l).size = l.length := by rw [← size_list, ofL_list]
theorem ofL_self (s : ByteArray) : ofL s.data.toList = s := ba_ext (ofL_list _)
def word4 (b0 b1 b2 b3 : UInt8) : Nat := numL [b0, b1, b2, b3]
theorem word4_lt (b0 b1 b2 b3 : UInt8) : word4 b0 b1 b2 b3 < 4294967296 := by
  have h := numL_lt [b0, b1, b2, b3]
  rw [show ([b0, b1, b2, b3] : List UInt8).length = 4 from rfl, show (256 : Nat) ^ 4 = 4294967296 by decide] at h
  exact h
theorem word4_inj {a0 a1 a2 a3 b0 b1 b2 b3 : UInt8} (h : word4 a0 a1 a2 a3 = word4 b0 b1 b2 b3) : a0 = b0 ∧ a1 = b1 ∧ a2 = b2 ∧ a3 = b3 := by
  have := numL_inj _ _ (by simp) h
  simpa using this
theorem take4 : ∀ (l : List UInt8) (i : Nat), i + 4 ≤ l.length → (l.drop i).take 4 = [bt l i, bt l (i + 1), bt l (i + 2), bt l (i + 3)]
  | l, i, h => by
    rw [bt_get l i (by omega), bt_get l (i + 1) (by omega), bt_get l (i + 2) (by omega), bt_get l (i + 3) (by omega)]
    rw [List.drop_eq_getElem_cons (by omega), List.take_succ_cons, List.drop_eq_getElem_cons (by omega), List.take_succ_cons, List.drop_eq_getElem_cons (by omega), List.take_succ_cons, List.drop_eq_getElem_cons (by omega), List.take_succ_cons, List.take_zero]
def wl (l : List UInt8) (k : Nat) : Nat := word4 (bt l (4 * k)) (bt l (4 * k + 1)) (bt l (4 * k + 2)) (bt l (4 * k + 3))
theorem wordAt_ofL (l : List UInt8) (k : Nat) (h : 4 * k + 4 ≤ l.length) : wordAt (ofL l) k = wl l k := by
  unfold wordAt num
  rw [ofL_list, take4 l (4 * k) h]
  rfl
def wls (l : List UInt8) : List Nat := (List.range (l.length / 4)).map (wl l)
theorem wordsL_ofL (l : List UInt8) : wordsL (ofL l) = wls l := by
  unfold wordsL wordsTo wls nwords
  rw [ofL_size]
  refine List.map_congr_left fun k hk => ?_
  have := List.mem_range.1 hk
  exact wordAt_ofL l k (by omega)
theorem wls_len (l : List UInt8) : (wls l).length = l.length / 4 := by simp [wls]
theorem wls_get (l : List UInt8) (k : Nat) (h : k < (wls l).length) : (wls l)[k] = wl l k := by simp [wls]
theorem sum4_ofL (l : List UInt8) (h : l.length % 4 = 0) : sum4 (ofL l) = sums zero4 (wls l) := by
  unfold sum4
  rw [pad4_id (by rw [ofL_size]; exact h), wordsL_ofL]
theorem wls_one {l l' : List UInt8} (hl : l'.length = l.length) (a : Nat) (h : ∀ k, k < l.length / 4 → k ≠ a → wl l' k = wl l k) : wls l' = (wls l).set a (wl l' a) := by
  refine List.ext_getElem (by rw [List.length_set, wls_len, wls_len, hl]) fun k h1 h2 => ?_
  rw [wls_get, List.getElem_set]
  rw [wls_len, hl] at h1
  split
  · rename_i e; rw [e]
  · rename_i e
    rw [wls_get]; exact h k h1 fun e' => e e'.symm
theorem wls_two {l l' : List UInt8} (hl : l'.length = l.length) (a b : Nat) (h : ∀ k, k < l.length / 4 → k ≠ a → k ≠ b → wl l' k = wl l k) : wls l' = ((wls l).set a (wl l' a)).set b (wl l' b) := by
  refine List.ext_getElem (by rw [List.length_set, List.length_set, wls_len, wls_len, hl]) fun k h1 h2 => ?_
  rw [wls_get, List.getElem_set, List.getElem_set]
  rw [wls_len, hl] at h1
  split
  · rename_i e; rw [e]
  · rename_i e
    split
    · rename_i e'; rw [e']
    · rename_i e'
      rw [wls_get]; exact h k h1 (fun h => e' h.symm) fun h => e h.symm

/-- four bytes set -/
def set4 (l : List UInt8) (x : Nat) (b0 b1 b2 b3 : UInt8) : List UInt8 := (((l.set x b0).set (x + 1) b1).set (x + 2) b2).set (x + 3) b3
theorem set4_len (l : List UInt8) (x : Nat) (b0 b1 b2 b3 : UInt8) : (set4 l x b0 b1 b2 b3).length = l.length := by simp [set4]
theorem bt_set4 (l : List UInt8) (x j : Nat) (b0 b1 b2 b3 : UInt8) (h : x + 4 ≤ l.length) :
    bt (set4 l x b0 b1 b2 b3) j = if j = x then b0 else if j = x + 1 then b1 else if j = x + 2 then b2 else if j = x + 3 then b3 else bt l j := by
  unfold set4
  rw [bt_set _ _ _ _ (by simp; omega), bt_set _ _ _ _ (by simp; omega), bt_set _ _ _ _ (by simp; omega), bt_set _ _ _ _ (by omega)]
  by_cases h0 : j = x
  · subst h0; simp
  · by_cases h1 : j = x + 1
    · subst h1; simp
    · by_cases h2 : j = x + 2
      · subst h2; simp
      · simp [h0, h1, h2]
theorem wl_set4 (l : List UInt8) (a k : Nat) (b0 b1 b2 b3 : UInt8) (h : 4 * a + 4 ≤ l.length) :
    wl (set4 l (4 * a) b0 b1 b2 b3) k = if k = a then word4 b0 b1 b2 b3 else wl l k := by
  unfold wl
  by_cases e : k = a
  · subst e
    simp [bt_set4 _ _ _ _ _ _ _ h]
  · rw [if_neg e, bt_set4 _ _ _ _ _ _ _ h, bt_set4 _ _ _ _ _ _ _ h, bt_set4 _ _ _ _ _ _ _ h, bt_set4 _ _ _ _ _ _ _ h]
    rw [if_neg (by omega), if_neg (by omega), if_neg (by omega), if_neg (by omega), if_neg (by omega), if_neg (by omega), if_neg (by omega), if_neg (by omega),
      if_neg (by omega), if_neg (by omega), if_neg (by omega), if_neg (by omega), if_neg (by omega), if_neg (by omega), if_neg (by omega), if_neg (by omega)]

/-- two words changed to each other's -/
def swap4 (l : List UInt8) (x y : Nat) : List UInt8 :=
  set4 (set4 l x (bt l y) (bt l (y + 1)) (bt l (y + 2)) (bt l (y + 3))) y (bt l x) (bt l (x + 1)) (bt l (x + 2)) (bt l (x + 3))
theorem sum4_swap (l : List UInt8) (h4 : l.length % 4 = 0) (hl : l.length < 4000) (a b : Nat) (ha : 4 * a + 4 ≤ l.length) (hb : 4 * b + 4 ≤ l.length)
    (hne : (l.drop (4 * a)).take 4 ≠ (l.drop (4 * b)).take 4) : sum4 (ofL (swap4 l (4 * a) (4 * b))) ≠ sum4 (ofL l) := by
  have hn : wl l a ≠ wl l b := fun e => hne (by
    obtain ⟨h0, h1, h2, h3⟩ := word4_inj e
    rw [take4 l _ ha, take4 l _ hb, h0, h1, h2, h3])
  have hab : a ≠ b := fun h => hn (by rw [h])
  have hlen : (swap4 l (4 * a) (4 * b)).length = l.length := by unfold swap4; rw [set4_len, set4_len]
  have hw : ∀ k, wl (swap4 l (4 * a) (4 * b)) k = if k = b then wl l a else if k = a then wl l b else wl l k := fun k => by
    unfold swap4
    rw [wl_set4 _ _ _ _ _ _ _ (by rw [set4_len]; exact hb), wl_set4 _ _ _ _ _ _ _ ha]
    rfl
  rw [sum4_ofL _ (by rw [hlen]; exact h4), sum4_ofL _ h4, wls_two hlen a b (fun k _ h1 h2 => by rw [hw, if_neg h2, if_neg h1])]
  rw [hw a, hw b, if_neg hab, if_pos rfl, if_pos rfl]
  have la : a < (wls l).length := by rw [wls_len]; omega
  have lb : b < (wls l).length := by rw [wls_len]; omega
  have h := sums_two (wls l) a b la lb (by rw [wls_len]; omega) (by rw [wls_get]; exact word4_lt _ _ _ _) (by rw [wls_get]; exact word4_lt _ _ _ _) (by rw [wls_get, wls_get]; exact hn)
  rw [wls_get, wls_get] at h
  exact h

/-- one byte after the other of a word, turned by a number's bytes -/
def byteOf (v j : Nat) : UInt8 := UInt8.ofNat (v / 256 ^ j)
def xorTo (l : List UInt8) (x v : Nat) : Nat → List UInt8
  | 0 => l
  | j + 1 => (xorTo l x v j).set (x + j) (bt (xorTo l x v j) (x + j) ^^^ byteOf v j)
theorem xorTo_len (l : List UInt8) (x v : Nat) : ∀ j, (xorTo l x v j).length = l.length
  | 0 => rfl
  | j + 1 => by rw [xorTo, List.length_set, xorTo_len l x v j]
theorem bt_xorTo (l : List UInt8) (x v : Nat) : ∀ j i, x + j ≤ l.length → bt (xorTo l x v j) i = if x ≤ i ∧ i < x + j then bt l i ^^^ byteOf v (i - x) else bt l i
  | 0, i, _ => by rw [xorTo, if_neg (by omega)]
  | j + 1, i, h => by
    rw [xorTo, bt_set _ _ _ _ (by rw [xorTo_len]; omega), bt_xorTo l x v j i (by omega), bt_xorTo l x v j (x + j) (by omega)]
    by_cases e : i = x + j
    · subst e
      rw [if_pos rfl, if_neg (by omega), if_pos (by omega), Nat.add_sub_cancel_left]
    · rw [if_neg e]
      by_cases e2 : x ≤ i ∧ i < x + j
      · rw [if_pos e2, if_pos (by omega)]
      · rw [if_neg e2, if_neg (by omega)]
theorem xor_self {a b : UInt8} (h : a ^^^ b = a) : b = 0 := by
  have h2 : a ^^^ (a ^^^ b) = a ^^^ a := by rw [h]
  rw [← UInt8.xor_assoc, UInt8.xor_self, UInt8.zero_xor] at h2
  exact h2
theorem byteOf_zero {v j : Nat} (h : byteOf v j = 0) : v / 256 ^ j % 256 = 0 := by
  have := congrArg UInt8.toNat h
  simpa [byteOf] using this
theorem sum4_xor (l : List UInt8) (h4 : l.length % 4 = 0) (a v : Nat) (ha : 4 * a + 4 ≤ l.length) (hv : v < 4294967296) :
    (sum4 (ofL (xorTo l (4 * a) v 4)) = sum4 (ofL l)) ↔ v = 0 := by
  have hlen := xorTo_len l (4 * a) v 4
  have hb := fun i => bt_xorTo l (4 * a) v 4 i (by omega)
  have hoth : ∀ k, k ≠ a → wl (xorTo l (4 * a) v 4) k = wl l k := fun k hk => by
    unfold wl
    rw [hb, hb, hb, hb, if_neg (by omega), if_neg (by omega), if_neg (by omega), if_neg (by omega)]
  have hown : wl (xorTo l (4 * a) v 4) a = word4 (bt l (4 * a) ^^^ byteOf v 0) (bt l (4 * a + 1) ^^^ byteOf v 1) (bt l (4 * a + 2) ^^^ byteOf v 2) (bt l (4 * a + 3) ^^^ byteOf v 3) := by
    unfold wl
    rw [hb, hb, hb, hb, if_pos (by omega), if_pos (by omega), if_pos (by omega), if_pos (by omega), Nat.sub_self, Nat.add_sub_cancel_left, Nat.add_sub_cancel_left, Nat.add_sub_cancel_left]
  rw [sum4_ofL _ (by rw [hlen]; exact h4), sum4_ofL _ h4, wls_one hlen a (fun k _ h => hoth k h)]
  have la : a < (wls l).length := by rw [wls_len]; omega
  constructor
  · intro e
    by_cases hne : wl (xorTo l (4 * a) v 4) a = (wls l)[a]
    · rw [wls_get, hown] at hne
      obtain ⟨h0, h1, h2, h3⟩ := word4_inj hne
      have z0 := byteOf_zero (xor_self h0)
      have z1 := byteOf_zero (xor_self h1)
      have z2 := byteOf_zero (xor_self h2)
      have z3 := byteOf_zero (xor_self h3)
      simp only [Nat.pow_zero, Nat.div_one, Nat.pow_one, show (256 : Nat) ^ 2 = 65536 from rfl, show (256 : Nat) ^ 3 = 16777216 from rfl] at z0 z1 z2 z3
      omega
    · exact absurd e (sums_one (wls l) a _ la (by rw [wls_get]; exact word4_lt _ _ _ _) (word4_lt _ _ _ _) hne)
  · rintro rfl
    have e0 : ∀ j, byteOf 0 j = 0 := fun j => by simp [byteOf]
    have e : wl (xorTo l (4 * a) 0 4) a = (wls l)[a] := by
      rw [hown, wls_get, e0, e0, e0, e0]
      simp only [UInt8.xor_zero]
      rfl
    rw [e, List.set_getElem_self]

end Go.Proofs.Ytnflakaphbjbhaa

/-
  script.decimal, number, isNote: numbers in decimal, written and read; runes.
-/
import Derived.Laws.BytesArg
import Derived.Laws.RangeAny
import Derived.Lib.TrimU
import Derived.Test.YtajionjffijffaaTail
import Derived.Test.YtajionjffijffaaShelf
namespace Go.Proofs.Ytajionjffijffaa
open Go.RowKit Go.Sort

/-! ### texts -/
theorem ba_ext {a b : ByteArray} (h : a.data.toList = b.data.toList) : a = b := by
  cases a with
  | mk x =>
    cases b with
    | mk y =>
      have : x = y := Array.toList_inj.1 h
      rw [this]
theorem cat_list (a b : ByteArray) : (a ++ b).data.toList = a.data.toList ++ b.data.toList := by simp [ByteArray.data_append]
theorem size_list (s : ByteArray) : s.data.toList.length = s.size := by rw [Array.length_toList]; rfl
theorem cat_size (a b : ByteArray) : (a ++ b).size = a.size + b.size := by rw [← size_list, cat_list, List.length_append, size_list, size_list]
def ofL (l : List UInt8) : ByteArray := ⟨l.toArray⟩
theorem ofL_list (l : List UInt8) : (ofL l).data.toList = l := by simp [ofL]
theorem ofL_size (l : List UInt8) : (ofL l).size = l.length := by rw [← size_list, ofL_list]
theorem ofL_self (s : ByteArray) : ofL s.data.toList = s := ba_ext (ofL_list _)
theorem ofL_cat (a b : List UInt8) : ofL a ++ ofL b = ofL (a ++ b) := ba_ext (by rw [cat_list, ofL_list, ofL_list, ofL_list])

/-! ### decimal -/
def decN (n : Nat) : List UInt8 := if n < 10 then [UInt8.ofNat (48 + n)] else decN (n / 10) ++ [UInt8.ofNat (48 + n % 10)]
termination_by n
theorem decN_len (n : Nat) : (decN n).length ≤ n + 1 := by
  induction n using Nat.strongRecOn with
  | ind n ih =>
    rw [decN]
    split
    · simp
    · have := ih (n / 10) (by omega)
      simp only [List.length_append, List.length_singleton]
      omega
def decI (n : Int) : List UInt8 := if n < 0 then 45 :: decN n.natAbs else decN n.natAbs
theorem decN_len20 : ∀ (k n : Nat), n < 10 ^ (k + 1) → (decN n).length ≤ k + 1
  | 0, n, h => by rw [decN, if_pos (by simpa using h)]; simp
  | k + 1, n, h => by
    rw [decN]
    split
    · simp
    · have := decN_len20 k (n / 10) (by rw [Nat.pow_succ] at h; omega)
      simp only [List.length_append, List.length_singleton]
      omega

theorem run_digit (W : World) (B : Nat) : (convert 75 9 (.slice (some ⟨W.heap.size, 0, none⟩) 1 1)).run Try.prog (W.alloc (.cells #[.int .u8 (B : Int)] 5)) = .ok (.string (ofL [UInt8.ofNat B])) (W.alloc (.cells #[.int .u8 (B : Int)] 5)) := by
  have r := run_convert_bytes_arg (P := Try.prog) (W.alloc (.cells #[.int .u8 (B : Int)] 5)) 75 5 Try.underlying75 Try.underlying5 W.heap.size 0 1 1 [(B : Int)] rfl (fun j hj => by
    obtain rfl : j = 0 := by omega
    rw [cell_at]; rfl) 9 Try.underlying9
  rw [r]
  congr 2

set_option maxRecDepth 20000 in
theorem decimal_nat (n : Nat) (hn : n < 9223372036854775808) : Pure Try.prog 31 #[.int .i64 (n : Int)] (.string (ofL (decN n))) := by
  induction n using Nat.strongRecOn with
  | ind n ih =>
    intro w
    have hcv := run_digit
    obtain ⟨R, hR⟩ : ∃ R, ofL [UInt8.ofNat (48 + n % 10)] = R := ⟨_, rfl⟩
    have hRs : R.size = 1 := by rw [← hR]; rfl
    have hcv2 : ∀ W : World, (convert 75 9 (.slice (some ⟨W.heap.size, 0, none⟩) 1 1)).run Try.prog (W.alloc (.cells #[.int .u8 (48 + (n : Int) % 10)] 5)) = .ok (.string R) (W.alloc (.cells #[.int .u8 (48 + (n : Int) % 10)] 5)) := fun W => by
      have h := hcv W (48 + n % 10)
      have e : ((48 + n % 10 : Nat) : Int) = 48 + (n : Int) % 10 := by omega
      rw [hR, e] at h
      exact h
    clear hcv
    by_cases h : n < 10
    · have e : ofL (decN n) = R := by rw [decN, if_pos h, ← hR, Nat.mod_eq_of_lt h]
      rw [e]
      clear ih hR e
      go_enter Try.func31, Try.ntmps31
      go_wp2_with fail
      all_goals (try (exfalso; omega))
      go_ret
      exact Ret.mk rfl (by (repeat' (first | (with_reducible exact Below.refl _ _) | (with_reducible refine belowGrU ?_ _) | (with_reducible refine belowAlloc ?_ _) | (with_reducible refine Below.setCell ?_ ?_ _) | (with_reducible refine Below.drew ?_) | (simp [go_sem]; done) | (simp [go_sem]; omega))))
    · have c := ih (n / 10) (by omega) (by omega)
      have e : ofL (decN n) = ofL (decN (n / 10)) ++ R := by
        conv => lhs; rw [decN, if_neg h]
        rw [← hR, ofL_cat]
      have hlen : (ofL (decN (n / 10))).size < 4611686018427387904 := by rw [ofL_size]; have := decN_len (n / 10); omega
      rw [e]
      have hd : ((n / 10 : Nat) : Int) = (n : Int) / 10 := by omega
      rw [hd] at c
      generalize ofL (decN (n / 10)) = D at *
      clear ih hR e hd
      go_enter Try.func31, Try.ntmps31
      go_wp2_with (go_at_call 31; with_reducible refine (c.at _).mono ?_; rintro e w' ⟨rfl, g, rfl⟩)
      all_goals (try (exfalso; omega))
      go_ret
      exact Ret.mk rfl (by (repeat' (first | (with_reducible exact Below.refl _ _) | (with_reducible refine belowGrU ?_ _) | (with_reducible refine belowAlloc ?_ _) | (with_reducible refine Below.setCell ?_ ?_ _) | (with_reducible refine Below.drew ?_) | (simp [go_sem]; done) | (simp [go_sem]; omega))))

set_option maxRecDepth 20000 in
theorem decimal_any (n : Int) (h0 : -9223372036854775808 < n) (h1 : n < 9223372036854775808) : Pure Try.prog 31 #[.int .i64 n] (.string (ofL (decI n))) := by
  by_cases hn : n < 0
  · intro w
    have c := decimal_nat n.natAbs (by omega)
    have e : ofL (decI n) = ⟨#[45]⟩ ++ ofL (decN n.natAbs) := by
      refine ba_ext ?_
      rw [cat_list, ofL_list, ofL_list, decI, if_pos hn]; rfl
    have hlen : (ofL (decN n.natAbs)).size < 4611686018427387904 := by
      have := decN_len20 18 n.natAbs (by simp; omega)
      rw [ofL_size]; omega
    rw [e]
    have hd : ((n.natAbs : Nat) : Int) = -n := by omega
    rw [hd] at c
    generalize ofL (decN n.natAbs) = D at *
    clear e hd
    go_enter Try.func31, Try.ntmps31
    go_wp2_with (go_at_call 31; with_reducible refine (c.at _).mono ?_; rintro e w' ⟨rfl, g, rfl⟩)
    all_goals (try (exfalso; omega))
    go_ret
    exact Ret.mk rfl (by (repeat' (first | (with_reducible exact Below.refl _ _) | (with_reducible refine belowGrU ?_ _) | (with_reducible refine belowAlloc ?_ _) | (with_reducible refine Below.setCell ?_ ?_ _) | (with_reducible refine Below.drew ?_) | (simp [go_sem]; done) | (simp [go_sem]; omega))))
  · obtain ⟨m, rfl⟩ := Int.eq_ofNat_of_zero_le (by omega : 0 ≤ n)
    have c := decimal_nat m (by omega)
    have e : decI (m : Int) = decN m := by rw [decI, if_neg hn]; rfl
    rw [e]
    exact c

/-! ### runes -/
/-- the runes of a text from a place on -/
def runesF (s : ByteArray) : Nat → Nat → List Nat
  | 0, _ => []
  | f + 1, i => if i < s.size then (Utf8.decode s i).1 :: runesF s f (i + (Utf8.decode s i).2) else []
theorem runesF_more (s : ByteArray) : ∀ (f f' i : Nat), s.size ≤ f + i → s.size ≤ f' + i → runesF s f i = runesF s f' i
  | 0, 0, _, _, _ => rfl
  | 0, f' + 1, i, h, _ => by rw [runesF, runesF, if_neg (by omega)]
  | f + 1, 0, i, _, h => by rw [runesF, runesF, if_neg (by omega)]
  | f + 1, f' + 1, i, h, h' => by
    rw [runesF, runesF]
    have hw := Lib.width_pos s i
    split
    · rw [runesF_more s f f' (i + (Utf8.decode s i).2) (by omega) (by omega)]
    · rfl
def runesAt (s : ByteArray) (i : Nat) : List Nat := runesF s s.size i
theorem runesAt_end (s : ByteArray) (i : Nat) (h : s.size ≤ i) : runesAt s i = [] := by
  unfold runesAt
  cases e : s.size with
  | zero => rfl
  | succ n => rw [runesF, if_neg (by omega)]
theorem runesAt_step (s : ByteArray) (i : Nat) (h : i < s.size) : runesAt s i = (Utf8.decode s i).1 :: runesAt s (i + (Utf8.decode s i).2) := by
  unfold runesAt
  have hw := Lib.width_pos s i
  rw [runesF_more s s.size (s.size + 1) i (by omega) (by omega), runesF, if_pos h]
def runes (s : ByteArray) : List Nat := runesAt s 0

/-- is a line a note? -/
def noteS (s : ByteArray) : Bool := match runes s with
  | [] => true
  | r :: _ => r == 167
set_option maxRecDepth 20000 in
theorem isNote_any (s : ByteArray) : Pure Try.prog 22 #[.string s] (.bool (noteS s)) := by
  intro w
  by_cases h : 0 < s.size
  · have e : noteS s = ((Utf8.decode s 0).1 == 167) := by rw [noteS, runes, runesAt_step s 0 h]
    rw [e]
    have hle := decode_le s 0
    obtain ⟨R, hR⟩ : ∃ R, (Utf8.decode s 0).1 = R := ⟨_, rfl⟩
    rw [hR] at hle ⊢
    have hi : ((R : Int) == 167) = (R == 167) := by
      rw [Bool.eq_iff_iff, beq_iff_eq, beq_iff_eq]; omega
    rw [← hi]
    clear e hi
    go_enter Try.func22, Try.ntmps22
    go_wp2_with fail
    go_loopw [7] (fun _ wr => wr = w.alloc (.stringIter s 0)) (fun _ _ => 0)
    case atStart => rfl
    case round =>
      subst hrel
      go_wp2_with fail
      go_ret
      exact Ret.mk rfl (by (repeat' (first | (with_reducible exact Below.refl _ _) | (with_reducible refine belowGrU ?_ _) | (with_reducible refine belowAlloc ?_ _) | (with_reducible refine Below.setCell ?_ ?_ _) | (with_reducible refine Below.drew ?_) | (simp [go_sem]; done) | (simp [go_sem]; omega))))
  · have e : noteS s = true := by rw [noteS, runes, runesAt_end s 0 (by omega)]
    rw [e]
    go_enter Try.func22, Try.ntmps22
    go_wp2_with fail
    go_loopw [7] (fun _ wr => wr = w.alloc (.stringIter s 0)) (fun _ _ => 0)
    case atStart => rfl
    case round =>
      subst hrel
      go_wp2_with fail
      go_ret
      exact Ret.mk rfl (by (repeat' (first | (with_reducible exact Below.refl _ _) | (with_reducible refine belowGrU ?_ _) | (with_reducible refine belowAlloc ?_ _) | (with_reducible refine Below.setCell ?_ ?_ _) | (with_reducible refine Below.drew ?_) | (simp [go_sem]; done) | (simp [go_sem]; omega))))

/-! ### numbers -/
def itPos (w : World) (b : Nat) : Nat := match w.heap[b]? with
  | some (.stringIter _ p) => p
  | _ => 0
theorem itPos_gr (W : World) (s : ByteArray) (p n : Nat) (g : Gr) (h : W.heap.size = n) : itPos (gr (W.alloc (.stringIter s p)) g) n = p := by
  subst h
  have h1 : (gr (W.alloc (.stringIter s p)) g).heap[W.heap.size]? = some (.stringIter s p) := by
    rw [gr_heap _ _ (by simp)]; exact World.iter_heap W s p
  simp [itPos, h1]
def digitsS : List Nat → Nat → Option Nat
  | [], n => some n
  | r :: rs, n => if r < 48 ∨ 57 < r then none else digitsS rs (10 * n + (r - 48))
def numTail (s : ByteArray) (neg : Bool) : Option Nat → Int × Bool
  | none => (0, false)
  | some n => (if neg then -(n : Int) else n, (ofL (decI (if neg then -(n : Int) else n))).toList == s.toList)
def numS (s : ByteArray) : Int × Bool :=
  let d := ofL (Lib.trimPrefix s.data.toList [45])
  if d.size = 0 ∨ 18 < d.size then (0, false) else numTail s (!(d.toList == s.toList)) (digitsS (runes d) 0)

theorem pure_of_same {P : Program} {f : FuncId} {args : Array Value} {v : Value} (h : ∀ W, Calls P f args W fun e w' => e = .returned v ∧ w' = W) : Pure P f args v :=
  fun w => (h w).mono fun e w' ⟨he, hw⟩ => by subst he; subst hw; exact Ret.mk rfl (Below.refl _ _)
theorem isEmpty_eq (d : ByteArray) : d.toList.isEmpty = decide (d.size = 0) := by
  rw [ByteArray.toList_eq, ← size_list]
  cases d.data.toList <;> simp
theorem pow18 (pos : Nat) (h : pos ≤ 17) : 10 ^ (pos + 1) ≤ 1000000000000000000 := by
  have : (10 : Nat) ^ (pos + 1) ≤ 10 ^ 18 := Nat.pow_le_pow_right (by omega) (by omega)
  exact this

set_option maxRecDepth 20000 in
set_option maxHeartbeats 1000000 in
theorem number_any (s : ByteArray) : Pure Try.prog 52 #[.string s] (.tuple #[.int .i64 (numS s).1, .bool (numS s).2]) := by
  intro w
  have cT : Pure Try.prog 58 #[.string s, .string ⟨#[45]⟩] (.string (ofL (Lib.trimPrefix s.data.toList [45]))) := pure_of_same fun W => Try.strings_TrimPrefix s ⟨#[45]⟩ W
  unfold numS
  simp only []
  generalize ofL (Lib.trimPrefix s.data.toList [45]) = d at *
  have hem := isEmpty_eq d
  by_cases h : d.size = 0 ∨ 18 < d.size
  · rw [if_pos h]
    have hd : (d.toList.isEmpty || decide (18 < (d.size : Int))) = true := by
      rw [hem]
      rcases h with h | h
      · simp [h]
      · have : 18 < (d.size : Int) := by omega
        simp [this]
    clear hem h
    go_enter Try.func52, Try.ntmps52
    go_wp2_with (go_at_call 58; with_reducible refine (cT.at _).mono ?_; rintro e w' ⟨rfl, g, rfl⟩)
    all_goals (try (exfalso; simp_all; done))
    all_goals go_ret2
    all_goals exact Ret.mk rfl (by (repeat' (first | (with_reducible exact Below.refl _ _) | (with_reducible refine belowGrU ?_ _) | (with_reducible refine belowAlloc ?_ _) | (with_reducible refine Below.setCell ?_ ?_ _) | (with_reducible refine Below.drew ?_) | (simp [go_sem]; done) | (simp [go_sem]; omega))))
  · rw [if_neg h]
    have he : d.toList.isEmpty = false := by rw [hem]; exact decide_eq_false (by omega)
    have hs18 : d.size ≤ 18 := by omega
    have hli : decide (18 < (d.size : Int)) = false := by simp only [decide_eq_false_iff_not]; omega
    clear hem h
    obtain ⟨T, hT⟩ : ∃ T, digitsS (runes d) 0 = T := ⟨_, rfl⟩
    rw [hT]
    have HT : Hid (digitsS (runesAt d 0) 0 = T) := hT
    clear hT
    go_enter Try.func52, Try.ntmps52
    go_wp2_with (go_at_call 58; with_reducible refine (cT.at _).mono ?_; rintro e w' ⟨rfl, g, rfl⟩)
    all_goals (try (exfalso; simp_all; done))
    go_loopw [5] (fun n wr => ∃ pos N : Nat, n = .int .i64 (N : Int) ∧ N < 10 ^ pos ∧ N < 1000000000000000000 ∧ Hid (digitsS (runesAt d pos) N = T) ∧ ∃ g' : Gr, wr = gr ((gr w g).alloc (.stringIter d pos)) g')
      (fun _ wr => d.size - itPos wr (gr w g).heap.size)
    case atStart => exact ⟨0, 0, rfl, by simp, by omega, HT, ex_gr _⟩
    case round =>
      obtain ⟨pos, N, rfl, hN, hN2, HD, g', rfl⟩ := hrel
      by_cases hlt : pos < d.size
      · have hd := HD.out
        clear HD
        rw [runesAt_step d pos hlt, digitsS] at hd
        have hw := Lib.width_pos d pos
        have hle := decode_le d pos
        obtain ⟨R, hR⟩ : ∃ R, (Utf8.decode d pos).1 = R := ⟨_, rfl⟩
        obtain ⟨K, hK⟩ : ∃ K, (Utf8.decode d pos).2 = K := ⟨_, rfl⟩
        rw [hR, hK] at hd
        rw [hR] at hle
        rw [hK] at hw
        by_cases hr : R < 48 ∨ 57 < R
        · rw [if_pos hr] at hd
          subst hd
          have hdr : (decide ((R : Int) < 48) || decide (57 < (R : Int))) = true := by
            rcases hr with h | h
            · have : (R : Int) < 48 := by omega
              simp [this]
            · have : 57 < (R : Int) := by omega
              simp [this]
          rw [numTail]
          clear HT
          go_wp2_with fail
          all_goals (try (exfalso; omega))
          all_goals go_ret2
          all_goals exact Ret.mk rfl (by (repeat' (first | (with_reducible exact Below.refl _ _) | (with_reducible refine belowGrU ?_ _) | (with_reducible refine belowAlloc ?_ _) | (with_reducible refine Below.setCell ?_ ?_ _) | (with_reducible refine Below.drew ?_) | (simp [go_sem]; done) | (simp [go_sem]; omega))))
        · rw [if_neg hr] at hd
          have hp := pow18 pos (by omega)
          have hp2 : 10 ^ (pos + 1) ≤ 10 ^ (pos + K) := Nat.pow_le_pow_right (by omega) (by omega)
          have hN10 : 10 * N + (R - 48) < 10 ^ (pos + 1) := by rw [Nat.pow_succ]; omega
          have HD := Lib.hid hd
          have hN3 : 10 * N + (R - 48) < 1000000000000000000 := Nat.lt_of_lt_of_le hN10 hp
          have HP := Lib.hid (Nat.lt_of_lt_of_le hN10 hp2)
          clear hd hp hp2 hN10 hN HT
          go_wp2_with fail
          all_goals (try (exfalso; omega))
          go_roundw
          case rel => exact ⟨pos + K, 10 * N + (R - 48), by go_num, HP.out, hN3, HD, g', rfl⟩
          case measure =>
            rw [itPos_gr _ _ _ _ _ rfl, itPos_gr _ _ _ _ _ rfl]
            omega
      · have hd := HD.out
        clear HD
        rw [runesAt_end d pos (by omega), digitsS] at hd
        subst hd
        clear HT
        have hb : d.size ≤ pos := by omega
        cases hds : d.toList == s.toList
        · have e : numTail s (!false) (some N) = (-(N : Int), (ofL (decI (-(N : Int)))).toList == s.toList) := rfl
          have c := decimal_any (-(N : Int)) (by omega) (by omega)
          generalize ofL (decI (-(N : Int))) = D at *
          have HE := Lib.hid e
          clear e
          go_wp2_with (go_at_call 31; with_reducible refine (c.at _).mono ?_; rintro e w' ⟨rfl, g2, rfl⟩)
          all_goals (try (exfalso; omega))
          all_goals go_ret2
          all_goals exact Ret.mk (by rw [hds, HE.out]; rfl) (by (repeat' (first | (with_reducible exact Below.refl _ _) | (with_reducible refine belowGrU ?_ _) | (with_reducible refine belowAlloc ?_ _) | (with_reducible refine Below.setCell ?_ ?_ _) | (with_reducible refine Below.drew ?_) | (simp [go_sem]; done) | (simp [go_sem]; omega))))
        · have e : numTail s (!true) (some N) = ((N : Int), (ofL (decI (N : Int))).toList == s.toList) := rfl
          have c := decimal_any (N : Int) (by omega) (by omega)
          generalize ofL (decI (N : Int)) = D at *
          have HE := Lib.hid e
          clear e
          go_wp2_with (go_at_call 31; with_reducible refine (c.at _).mono ?_; rintro e w' ⟨rfl, g2, rfl⟩)
          all_goals (try (exfalso; omega))
          all_goals go_ret2
          all_goals exact Ret.mk (by rw [hds, HE.out]; rfl) (by (repeat' (first | (with_reducible exact Below.refl _ _) | (with_reducible refine belowGrU ?_ _) | (with_reducible refine belowAlloc ?_ _) | (with_reducible refine Below.setCell ?_ ?_ _) | (with_reducible refine Below.drew ?_) | (simp [go_sem]; done) | (simp [go_sem]; omega))))

end Go.Proofs.Ytajionjffijffaa

/-
  Plain law: a script of one act, written with so many numbers, is read if and only if its word has so many.
-/
import Derived.Test.YtajionjffijffaaNear
import Derived.Test.YtajionjffijffaaDecP
namespace Go.Proofs.Ytajionjffijffaa
open Go.RowKit Go.Sort

def wline (w D : List UInt8) : Nat → List UInt8
  | 0 => w
  | i + 1 => wline w D i ++ 32 :: D
theorem wline_parts (w D : List UInt8) (hw : Ascii w) (hD : Ascii D) (hw2 : (32 : UInt8) ∉ w) (hD2 : (32 : UInt8) ∉ D) : ∀ i : Nat,
    Ascii (wline w D i) ∧ ∃ (ms : List (ByteArray × Int)) (A : Int), pfold pstart ((wline w D i).map (·.toNat)) = ((ofL w, 1) :: ms, A) ∧ ms.length = i ∧ ∀ y ∈ ms, y.1 = ofL D
  | 0 => by
    refine ⟨hw, [], w.length, ?_, rfl, fun y hy => by cases hy⟩
    have h := pfold_word w hw hw2 [] ⟨#[]⟩ 1 0
    have e : (⟨#[]⟩ : ByteArray) ++ ofL w = ofL w := ba_ext (by rw [cat_list]; rfl)
    rw [e] at h
    have h2 : pfold ([(⟨#[]⟩, 1)], 0) (w.map (·.toNat)) = ([(ofL w, 1)], (w.length : Int)) := by simpa using h
    exact h2
  | i + 1 => by
    obtain ⟨ha, ms, A, h1, h2, h3⟩ := wline_parts w D hw hD hw2 hD2 i
    refine ⟨?_, ms ++ [(ofL D, A + 2)], A + 1 + D.length, ?_, by simp [h2], ?_⟩
    · intro b hb
      rcases List.mem_append.1 hb with hb | hb
      · exact ha b hb
      · rcases List.mem_cons.1 hb with rfl | hb
        · decide
        · exact hD b hb
    · rw [wline, List.map_append, pfold_append, h1, pfold_more D hD hD2]
      rfl
    · intro y hy
      rcases List.mem_append.1 hy with hy | hy
      · exact h3 y hy
      · rw [List.mem_singleton.1 hy]
theorem wline_form (w D : List UInt8) (hw : Ascii w) (hD : Ascii D) (hw2 : (32 : UInt8) ∉ w) (hD2 : (32 : UInt8) ∉ D) (i : Nat) :
    firstP (ofL (wline w D i)) = ofL w ∧ (midP (ofL (wline w D i))).length = i ∧ (∀ y ∈ midP (ofL (wline w D i)), y.1 = ofL D) ∧ ∃ e, endP (ofL (wline w D i)) = e := by
  obtain ⟨ha, ms, A, h1, h2, h3⟩ := wline_parts w D hw hD hw2 hD2 i
  have hp : partsS (ofL (wline w D i)) = (ofL w, 1) :: (ms ++ [(⟨#[]⟩, A + 1)]) := by
    unfold partsS
    rw [runes_ascii _ ha, h1]
    rfl
  have hm : midP (ofL (wline w D i)) = ms := by
    unfold midP
    rw [hp, List.tail_cons, List.dropLast_concat]
  exact ⟨by unfold firstP; rw [hp]; rfl, by rw [hm]; exact h2, by rw [hm]; exact h3, _, rfl⟩

theorem word_props {w : ByteArray} {k : Nat} (h : wordsS w = some k) : (∀ b ∈ w.data.toList, 97 ≤ b.toNat ∧ b.toNat ≤ 122) ∧ w.data.toList ≠ [] ∧ w.data.toList.length ≤ 8 ∧ (k = 0 ∨ k = 1 ∨ k = 2 ∨ k = 4) := by
  have h0 : ∀ x ∈ wsL 0, (∀ b ∈ x, 97 ≤ b.toNat ∧ b.toNat ≤ 122) ∧ x ≠ [] ∧ x.length ≤ 8 := by decide
  have h1 : ∀ x ∈ wsL 1, (∀ b ∈ x, 97 ≤ b.toNat ∧ b.toNat ≤ 122) ∧ x ≠ [] ∧ x.length ≤ 8 := by decide
  have h2 : ∀ x ∈ wsL 2, (∀ b ∈ x, 97 ≤ b.toNat ∧ b.toNat ≤ 122) ∧ x ≠ [] ∧ x.length ≤ 8 := by decide
  have h3 : ∀ x ∈ wsL 3, (∀ b ∈ x, 97 ≤ b.toNat ∧ b.toNat ≤ 122) ∧ x ≠ [] ∧ x.length ≤ 8 := by decide
  unfold wordsS at h
  split at h
  · rename_i hm; cases h; obtain ⟨a, b, c⟩ := h0 _ hm; exact ⟨a, b, c, by omega⟩
  · split at h
    · rename_i hm; cases h; obtain ⟨a, b, c⟩ := h1 _ hm; exact ⟨a, b, c, by omega⟩
    · split at h
      · rename_i hm; cases h; obtain ⟨a, b, c⟩ := h2 _ hm; exact ⟨a, b, c, by omega⟩
      · split at h
        · rename_i hm; cases h; obtain ⟨a, b, c⟩ := h3 _ hm; exact ⟨a, b, c, by omega⟩
        · cases h

/-- an act of a known word and so many equal numbers -/
theorem act_words {w : ByteArray} {k : Nat} (hk : wordsS w = some k) {D : ByteArray} {n : Int} (hD : numS D = (n, true)) (hn1 : -9007199254740992 ≤ n) (hn2 : n ≤ 9007199254740992)
    (ms : List (ByteArray × Int)) (hms : ∀ y ∈ ms, y.1 = D) (e : Int) :
    (ms.length = k → ∃ x : Act5, actS w ms e = (x, 0, 0) ∧ x.word = w ∧ stepS x = 0) ∧ (ms.length ≠ k → (actS w ms e).2.2 ≠ 0) := by
  have hk4 := (word_props hk).2.2.2
  have hloop : ∀ (ys : List (ByteArray × Int)) (j : Nat) (x : Act5), (∀ y ∈ ys, y.1 = D) → j + ys.length ≤ k → ∃ x', actLoop k j x ys = .inr x' := fun ys => by
    induction ys with
    | nil => exact fun j x _ _ => ⟨x, rfl⟩
    | cons y ys ih =>
      intro j x hy hj
      rw [List.length_cons] at hj
      rw [actLoop, hy y List.mem_cons_self, hD, if_pos ⟨rfl, by omega⟩]
      exact ih (j + 1) _ (fun z hz => hy z (List.mem_cons_of_mem _ hz)) (by omega)
  have hover : ∀ (ys : List (ByteArray × Int)) (j : Nat) (x : Act5), (∀ y ∈ ys, y.1 = D) → j ≤ k → k < j + ys.length → ∃ a, actLoop k j x ys = .inl a := fun ys => by
    induction ys with
    | nil => intro j x _ h1 h2; simp at h2; omega
    | cons y ys ih =>
      intro j x hy hj hl
      rw [List.length_cons] at hl
      rw [actLoop, hy y List.mem_cons_self, hD]
      by_cases hjk : j < k
      · rw [if_pos ⟨rfl, hjk⟩]
        exact ih (j + 1) _ (fun z hz => hy z (List.mem_cons_of_mem _ hz)) (by omega) (by omega)
      · rw [if_neg (fun h => hjk h.2)]
        exact ⟨_, rfl⟩
  have hA : actS w ms e = actTail k ms.length e (actLoop k 0 ⟨w, 0, 0, 0, 0⟩ ms) := by unfold actS; rw [hk]
  rw [hA]
  constructor
  · intro hl
    have hstep : ∀ x : Act5, x.word = w → (∀ i, i < 4 → -9007199254740992 ≤ x.nth i ∧ x.nth i ≤ 9007199254740992 ∧ (i < k ∨ x.nth i = 0)) → stepS x = 0 := by
      intro x hx h
      have ho : ∀ i, i < 4 → okN x k i = true := fun i hi => by
        obtain ⟨a, b, c⟩ := h i hi
        unfold okN
        rw [decide_eq_true a, decide_eq_true b]
        rcases c with c | c
        · simp [c]
        · simp [c]
      unfold stepS
      rw [hx, hk]
      simp [ho 0 (by omega), ho 1 (by omega), ho 2 (by omega), ho 3 (by omega)]
    rcases hk4 with rfl | rfl | rfl | rfl
    · match ms, hl, hms with
      | [], _, _ =>
        refine ⟨⟨w, 0, 0, 0, 0⟩, rfl, rfl, hstep _ rfl fun i hi => ?_⟩
        rcases (show i = 0 ∨ i = 1 ∨ i = 2 ∨ i = 3 by omega) with rfl | rfl | rfl | rfl <;> simp [Act5.nth]
    · match ms, hl, hms with
      | [y0], _, hms =>
        refine ⟨⟨w, n, 0, 0, 0⟩, ?_, rfl, hstep _ rfl fun i hi => ?_⟩
        · simp [actLoop, hms y0 (by simp), hD, actTail, Act5.setN]
        · rcases (show i = 0 ∨ i = 1 ∨ i = 2 ∨ i = 3 by omega) with rfl | rfl | rfl | rfl <;> simp [Act5.nth, hn1, hn2]
    · match ms, hl, hms with
      | [y0, y1], _, hms =>
        refine ⟨⟨w, n, n, 0, 0⟩, ?_, rfl, hstep _ rfl fun i hi => ?_⟩
        · simp [actLoop, hms y0 (by simp), hms y1 (by simp), hD, actTail, Act5.setN]
        · rcases (show i = 0 ∨ i = 1 ∨ i = 2 ∨ i = 3 by omega) with rfl | rfl | rfl | rfl <;> simp [Act5.nth, hn1, hn2]
    · match ms, hl, hms with
      | [y0, y1, y2, y3], _, hms =>
        refine ⟨⟨w, n, n, n, n⟩, ?_, rfl, hstep _ rfl fun i hi => ?_⟩
        · simp [actLoop, hms y0 (by simp), hms y1 (by simp), hms y2 (by simp), hms y3 (by simp), hD, actTail, Act5.setN]
        · rcases (show i = 0 ∨ i = 1 ∨ i = 2 ∨ i = 3 by omega) with rfl | rfl | rfl | rfl <;> simp [Act5.nth, hn1, hn2]
  · intro hl
    rcases Nat.lt_or_ge k ms.length with h | h
    · obtain ⟨a, ha⟩ := hover ms 0 ⟨w, 0, 0, 0, 0⟩ hms (by omega) (by omega)
      rw [ha]
      simp [actTail]
    · obtain ⟨x, hx⟩ := hloop ms 0 ⟨w, 0, 0, 0, 0⟩ hms (by omega)
      rw [hx, actTail, if_pos (by omega)]
      simp

def headL : List UInt8 := [112, 111, 111, 108, 32, 52, 48, 32, 109, 50, 10]
theorem lineLen_snoc : ∀ l : List UInt8, (10 : UInt8) ∉ l → lineLen (l ++ [10]) = l.length + 1
  | [], _ => rfl
  | b :: l, h => by
    rw [List.cons_append, lineLen, if_neg (fun e => h (by simp [e])), lineLen_snoc l (fun e => h (List.mem_cons_of_mem _ e)), List.length_cons]
    omega
theorem lines_two (X : List UInt8) (h : (10 : UInt8) ∉ X) : linesS (headL ++ (X ++ [10])) = [headL, X ++ [10]] := by
  have h1 : lineLen (headL ++ (X ++ [10])) = 11 := by simp [headL, lineLen]
  have h2 := lineLen_snoc X h
  have h3 : (headL ++ (X ++ [10])).take 11 = headL := rfl
  have h4 : (headL ++ (X ++ [10])).drop 11 = X ++ [10] := rfl
  have h5 : (X ++ [10]).take (X.length + 1) = X ++ [10] := List.take_of_length_le (by simp)
  have h6 : (X ++ [10]).drop (X.length + 1) = [] := List.drop_of_length_le (by simp)
  rw [linesS_cons (by simp [headL]), h1, h3, h4, linesS_cons (by simp), h2, h5, h6]
  rfl
theorem head_line : lineS noSc (firstP (textOf headL)) (midP (textOf headL)) (endP (textOf headL)) = (⟨[(0, 2)], 40, []⟩, 0, 0) := by kernel_rfl
theorem head_note : noteS (textOf headL) = false := by kernel_rfl
theorem head_end : endedOf headL = true := by kernel_rfl
theorem good40 : goodL [(0, 2)] 40 = true := by kernel_rfl
def textW (w : ByteArray) (n : Int) (i : Nat) : ByteArray := ofL (headL ++ (wline w.data.toList (decI n) i ++ [10]))
theorem decI_bytes (n : Int) : ∀ b ∈ decI n, 45 ≤ b.toNat ∧ b.toNat ≤ 57 := by
  intro b hb
  unfold decI at hb
  split at hb
  · rcases List.mem_cons.1 hb with rfl | hb
    · decide
    · have := decN_bytes _ b hb; omega
  · have := decN_bytes _ b hb; omega
theorem wline_len (w D : List UInt8) : ∀ i, (wline w D i).length = w.length + i * (D.length + 1)
  | 0 => by simp [wline]
  | i + 1 => by
    rw [wline, List.length_append, wline_len w D i, List.length_cons, Nat.succ_mul]
    omega
theorem wline_mem (w D : List UInt8) (b : UInt8) : ∀ i, b ∈ wline w D i → b ∈ w ∨ b = 32 ∨ b ∈ D
  | 0, h => .inl h
  | i + 1, h => by
    rcases List.mem_append.1 h with h | h
    · exact wline_mem w D b i h
    · rcases List.mem_cons.1 h with h | h
      · exact .inr (.inl h)
      · exact .inr (.inr h)

theorem parse_line {w : ByteArray} {k : Nat} (hk : wordsS w = some k) {n : Int} (hn1 : -9007199254740992 ≤ n) (hn2 : n ≤ 9007199254740992) (i : Nat) (hi : i ≤ 5) :
    (i = k → ∃ x : Act5, parseS (textW w n i) = (⟨[(0, 2)], 40, [x]⟩, 0, 0, 0) ∧ x.word = w) ∧ (i ≠ k → (parseS (textW w n i)).2.2.2 ≠ 0) := by
  obtain ⟨hb, hne, hlen, _⟩ := word_props hk
  have hd := decI_bytes n
  have hdl : (decI n).length ≤ 19 := by
    have hl : (decN n.natAbs).length ≤ 18 := decN_len20 17 n.natAbs (by have : (10 : Nat) ^ 18 = 1000000000000000000 := rfl; omega)
    unfold decI
    split
    · rw [List.length_cons]; omega
    · omega
  have hwa : Ascii w.data.toList := fun b h => by have := hb b h; omega
  have hda : Ascii (decI n) := fun b h => by have := hd b h; omega
  have hw2 : (32 : UInt8) ∉ w.data.toList := fun h => by have := (hb _ h).1; revert this; decide
  have hd2 : (32 : UInt8) ∉ decI n := fun h => by have := (hd _ h).1; revert this; decide
  have h10 : (10 : UInt8) ∉ wline w.data.toList (decI n) i := fun h => by
    rcases wline_mem _ _ _ _ h with h | h | h
    · have := (hb _ h).1; revert this; decide
    · exact absurd h (by decide)
    · have := (hd _ h).1; revert this; decide
  obtain ⟨hX, hform⟩ := And.intro (wline_parts w.data.toList (decI n) hwa hda hw2 hd2 i).1 (wline_form w.data.toList (decI n) hwa hda hw2 hd2 i)
  obtain ⟨f1, f2, f3, f4⟩ := hform
  have hxl := wline_len w.data.toList (decI n) i
  have hsz : (textW w n i).size ≤ 8192 := by
    unfold textW
    rw [ofL_size, List.length_append, List.length_append, hxl]
    have : i * ((decI n).length + 1) ≤ 5 * 20 := Nat.mul_le_mul hi (by omega)
    have : headL.length = 11 := rfl
    have : ([10] : List UInt8).length = 1 := rfl
    omega
  have hnote : noteS (ofL (wline w.data.toList (decI n) i)) = false := by
    have hhead : ∃ b l, wline w.data.toList (decI n) i = b :: l ∧ b ∈ w.data.toList := by
      have : ∀ j, ∃ b l, wline w.data.toList (decI n) j = b :: l ∧ b ∈ w.data.toList := fun j => by
        induction j with
        | zero =>
          cases hw : w.data.toList with
          | nil => exact absurd hw hne
          | cons b l => exact ⟨b, l, rfl, List.mem_cons_self⟩
        | succ j ih =>
          obtain ⟨b, l, h1, h2⟩ := ih
          exact ⟨b, l ++ 32 :: decI n, by rw [wline, h1]; rfl, h2⟩
      exact this i
    obtain ⟨b, l, h1, h2⟩ := hhead
    unfold noteS
    rw [runes_ascii _ hX, h1]
    simp only [List.map_cons]
    have := hb b h2
    rw [beq_eq_false_iff_ne]
    omega
  obtain ⟨t1, t2⟩ := text_hit (wline w.data.toList (decI n) i)
  have hact := act_words hk (numS_dec n hn1 hn2) hn1 hn2 (midP (ofL (wline w.data.toList (decI n) i))) f3 (endP (ofL (wline w.data.toList (decI n) i)))
  rw [f2] at hact
  have hp : parseS (textW w n i) = (if (actS w (midP (ofL (wline w.data.toList (decI n) i))) (endP (ofL (wline w.data.toList (decI n) i)))).2.2 ≠ 0 then (noSc, 2, (actS w (midP (ofL (wline w.data.toList (decI n) i))) (endP (ofL (wline w.data.toList (decI n) i)))).2.1, (actS w (midP (ofL (wline w.data.toList (decI n) i))) (endP (ofL (wline w.data.toList (decI n) i)))).2.2)
      else endS ⟨[(0, 2)], 40, [(actS w (midP (ofL (wline w.data.toList (decI n) i))) (endP (ofL (wline w.data.toList (decI n) i)))).1]⟩ 2) := by
    unfold parseS
    rw [if_neg (by omega)]
    unfold textW
    rw [ofL_list, lines_two _ h10, parseL, if_neg (by rw [head_note]; simp)]
    simp only
    rw [head_line]
    simp only
    rw [if_neg (by simp), if_pos head_end, parseL, t1, if_neg (by rw [hnote]; simp)]
    simp only
    have hl : lineS ⟨[(0, 2)], 40, []⟩ (firstP (ofL (wline w.data.toList (decI n) i))) (midP (ofL (wline w.data.toList (decI n) i))) (endP (ofL (wline w.data.toList (decI n) i))) =
        (⟨[(0, 2)], 40, [(actS w (midP (ofL (wline w.data.toList (decI n) i))) (endP (ofL (wline w.data.toList (decI n) i)))).1]⟩, (actS w (midP (ofL (wline w.data.toList (decI n) i))) (endP (ofL (wline w.data.toList (decI n) i)))).2.1, (actS w (midP (ofL (wline w.data.toList (decI n) i))) (endP (ofL (wline w.data.toList (decI n) i)))).2.2) := by
      rw [f1, ofL_self]
      unfold lineS
      rw [if_neg (by simp)]
      rfl
    rw [hl]
    simp only
    rw [if_pos t2, parseL]
    rfl
  rw [hp]
  constructor
  · intro h
    obtain ⟨x, hx, hxw, hxs⟩ := hact.1 h
    refine ⟨x, ?_, hxw⟩
    rw [hx]
    simp only
    rw [if_neg (by simp)]
    unfold endS
    rw [if_neg (by simp)]
    have hr : rightS [(0, 2)] 40 [x] = 0 := by
      unfold rightS
      rw [if_pos good40]
      simp [stepsS, hxs]
    simp [hr]
  · intro h
    have := hact.2 h
    rw [if_pos this]
    exact this

end Go.Proofs.Ytajionjffijffaa

/-
  Plain laws: what is written of a right script is read as it was, with notes ahead of it, between its lines, and behind.
-/
import Derived.Test.YtajionjffijffaaOnlyP
namespace Go.Proofs.Ytajionjffijffaa
open Go.RowKit Go.Sort

/-! ### a written line's parts -/
def wordsL (w : List UInt8) (Ds : List (List UInt8)) : List UInt8 := w ++ (Ds.map fun D => 32 :: D).flatten
theorem pfold_words : ∀ (Ds : List (List UInt8)), (∀ D ∈ Ds, Ascii D ∧ (32 : UInt8) ∉ D) → ∀ (ps : List (ByteArray × Int)) (A : Int),
    ∃ (ms : List (ByteArray × Int)) (B : Int), pfold (ps, A) (((Ds.map fun D => 32 :: D).flatten).map (·.toNat)) = (ps ++ ms, B) ∧ ms.map (·.1) = Ds.map ofL
  | [], _, ps, A => ⟨[], A, by simp [pfold], rfl⟩
  | D :: Ds, h, ps, A => by
    obtain ⟨hD1, hD2⟩ := h D List.mem_cons_self
    obtain ⟨ms, B, h1, h2⟩ := pfold_words Ds (fun E hE => h E (List.mem_cons_of_mem _ hE)) (ps ++ [(ofL D, A + 2)]) (A + 1 + D.length)
    refine ⟨(ofL D, A + 2) :: ms, B, ?_, by rw [List.map_cons, h2]; rfl⟩
    rw [List.map_cons, List.flatten_cons, List.map_append, pfold_append, pfold_more D hD1 hD2, h1]
    simp
theorem words_form (w : List UInt8) (Ds : List (List UInt8)) (hw : Ascii w) (hw2 : (32 : UInt8) ∉ w) (hD : ∀ D ∈ Ds, Ascii D ∧ (32 : UInt8) ∉ D) :
    firstP (ofL (wordsL w Ds)) = ofL w ∧ (midP (ofL (wordsL w Ds))).map (·.1) = Ds.map ofL := by
  have ha : Ascii (wordsL w Ds) := by
    refine ascii_append hw (ascii_flatten fun l hl => ?_)
    obtain ⟨D, hDm, rfl⟩ := List.mem_map.1 hl
    intro b hb
    rcases List.mem_cons.1 hb with rfl | hb
    · decide
    · exact (hD D hDm).1 b hb
  have h0 := pfold_word w hw hw2 [] ⟨#[]⟩ 1 0
  have e : (⟨#[]⟩ : ByteArray) ++ ofL w = ofL w := ba_ext (by rw [cat_list]; rfl)
  rw [e] at h0
  have h0' : pfold pstart (w.map (·.toNat)) = ([(ofL w, 1)], (0 : Int) + w.length) := h0
  obtain ⟨ms, B, h1, h2⟩ := pfold_words Ds hD [(ofL w, 1)] (0 + w.length)
  have hp : partsS (ofL (wordsL w Ds)) = (ofL w, 1) :: (ms ++ [(⟨#[]⟩, B + 1)]) := by
    unfold partsS
    rw [runes_ascii _ ha]
    unfold wordsL
    rw [List.map_append, pfold_append, h0', h1]
    rfl
  refine ⟨by unfold firstP; rw [hp]; rfl, ?_⟩
  unfold midP
  rw [hp, List.tail_cons, List.dropLast_concat, h2]
theorem decI_no (n : Int) : (32 : UInt8) ∉ decI n := fun h => by have := (decI_bytes n _ h).1; revert this; decide

/-! ### the pool line -/
theorem trim_head (c : UInt8) (l : List UInt8) : Lib.trimPrefix (c :: l) [c] = l := by
  unfold Lib.trimPrefix Lib.hasPrefix
  simp
theorem group_dec (g : Int × Int) (h : g.1 = 0 ∨ g.1 = 1) (h1 : -9007199254740992 ≤ g.2) (h2 : g.2 ≤ 9007199254740992) : groupS (ofL ((if g.1 = 0 then 109 else 112) :: decI g.2)) = (g, true) := by
  obtain ⟨k, n⟩ := g
  simp only at h h1 h2 ⊢
  have hn := numS_dec n h1 h2
  unfold groupS restS
  rw [ofL_list]
  rcases h with rfl | rfl
  · rw [if_pos rfl, trim_head, hn]
    rw [if_pos (by unfold Lib.hasPrefix; simp)]
  · rw [if_neg (show ¬ (1 : Int) = 0 by omega), trim_head, hn]
    rw [if_neg (by unfold Lib.hasPrefix; simp), if_pos (by unfold Lib.hasPrefix; simp)]
theorem measLoop_dec : ∀ (gs : List (Int × Int)) (ys : List (ByteArray × Int)) (pre : List (Int × Int)), (∀ g ∈ gs, (g.1 = 0 ∨ g.1 = 1) ∧ 0 ≤ g.2 ∧ g.2 ≤ 8) → ys.map (·.1) = gs.map (fun g => ofL ((if g.1 = 0 then 109 else 112) :: decI g.2)) → measLoop pre ys = .inr (pre ++ gs)
  | [], ys, pre, _, h => by
    have : ys = [] := by simpa using h
    subst this
    rw [measLoop, List.append_nil]
  | g :: gs, [], pre, _, h => by simp at h
  | g :: gs, y :: ys, pre, hg, h => by
    rw [List.map_cons, List.map_cons] at h
    obtain ⟨h1, h2⟩ := List.cons.inj h
    have h3 := hg g List.mem_cons_self
    rw [measLoop, h1, group_dec g h3.1 (by omega) (by omega), if_pos rfl, measLoop_dec gs ys _ (fun x hx => hg x (List.mem_cons_of_mem _ hx)) h2]
    simp
def headT (secs : Int) (gs : List (Int × Int)) : List UInt8 := wordsL poolL (decI secs :: gs.map fun g => (if g.1 = 0 then 109 else 112) :: decI g.2)
theorem headB_T (secs : Int) (gs : List (Int × Int)) : headB secs gs = headT secs gs ++ [10] := by
  unfold headB headT wordsL poolL
  simp only [List.map_cons, List.map_map, List.flatten_cons]
  have : (fun D : List UInt8 => 32 :: D) ∘ (fun g : Int × Int => (if g.1 = 0 then 109 else 112) :: decI g.2) = grpB := by funext g; rfl
  rw [this]
  simp
theorem letter_ascii (g : Int × Int) : Ascii ((if g.1 = 0 then 109 else 112) :: decI g.2) ∧ (32 : UInt8) ∉ ((if g.1 = 0 then 109 else 112) :: decI g.2 : List UInt8) := by
  constructor
  · intro b hb
    rcases List.mem_cons.1 hb with rfl | hb
    · split <;> decide
    · exact decI_ascii _ b hb
  · intro hb
    rcases List.mem_cons.1 hb with h | hb
    · split at h <;> revert h <;> decide
    · exact decI_no _ hb
theorem head_parts (secs : Int) (gs : List (Int × Int)) : firstP (ofL (headT secs gs)) = ofL poolL ∧ (midP (ofL (headT secs gs))).map (·.1) = (decI secs :: gs.map fun g => (if g.1 = 0 then 109 else 112) :: decI g.2).map ofL :=
  words_form poolL _ (by unfold Ascii; decide) (by decide) (fun D hD => by
    rcases List.mem_cons.1 hD with rfl | hD
    · exact ⟨decI_ascii _, decI_no _⟩
    · obtain ⟨g, _, rfl⟩ := List.mem_map.1 hD
      exact letter_ascii g)
theorem meas_dec {gs : List (Int × Int)} {secs : Int} {xs : List Act5} (h : RightP gs secs xs) (e : Int) : measS (firstP (ofL (headT secs gs))) (midP (ofL (headT secs gs))) e = (⟨gs, secs⟩, 0, 0) := by
  obtain ⟨h1, h2⟩ := head_parts secs gs
  unfold measS
  rw [h1, ofL_list, if_neg (fun hn => hn rfl)]
  cases hm : midP (ofL (headT secs gs)) with
  | nil => rw [hm] at h2; simp at h2
  | cons y ys =>
    rw [hm, List.map_cons, List.map_cons] at h2
    obtain ⟨h3, h4⟩ := List.cons.inj h2
    have hs1 := h.s1
    have hs2 := h.s2
    simp only
    rw [h3, numS_dec secs (by omega) (by omega), if_pos rfl, measLoop_dec gs ys [] h.one (by rw [h4, List.map_map]; rfl), List.nil_append]
    have hg := h.g1
    cases gs with
    | nil => simp at hg
    | cons g gs => rfl

/-! ### an act's line -/
def lineT (x : Act5) : List UInt8 := wordsL x.word.data.toList ((List.range ((wordsS x.word).getD 0)).map fun i => decI (x.nth i))
theorem lineB_T (x : Act5) : lineB x = lineT x ++ [10] := by
  unfold lineB lineT wordsL numB
  rw [List.map_map]
  rfl
theorem line_parts {x : Act5} {k : Nat} (hk : wordsS x.word = some k) : firstP (ofL (lineT x)) = x.word ∧ (midP (ofL (lineT x))).map (·.1) = (List.range k).map fun i => ofL (decI (x.nth i)) := by
  obtain ⟨hb, _, _, _⟩ := word_props hk
  have h := words_form x.word.data.toList ((List.range k).map fun i => decI (x.nth i)) (fun b h => by have := hb b h; omega) (fun h => by have := (hb _ h).1; revert this; decide) (fun D hD => by
    obtain ⟨i, _, rfl⟩ := List.mem_map.1 hD
    exact ⟨decI_ascii _, decI_no _⟩)
  unfold lineT
  rw [hk]
  simp only [Option.getD_some]
  rw [ofL_self] at h
  refine ⟨h.1, ?_⟩
  rw [h.2, List.map_map]
  rfl
theorem list_one {α : Type} {l : List α} (h : l.length = 1) : ∃ a, l = [a] := List.length_eq_one_iff.1 h
theorem list_two {α : Type} {l : List α} (h : l.length = 2) : ∃ a b, l = [a, b] := by
  match l, h with
  | [a, b], _ => exact ⟨a, b, rfl⟩
theorem list_four {α : Type} {l : List α} (h : l.length = 4) : ∃ a b c d, l = [a, b, c, d] := by
  match l, h with
  | [a, b, c, d], _ => exact ⟨a, b, c, d, rfl⟩
theorem act_list (w : ByteArray) (n0 n1 n2 n3 : Int) (k : Nat) (hk4 : k = 0 ∨ k = 1 ∨ k = 2 ∨ k = 4) (M : List (ByteArray × Int)) (hlen : M.length = k) (h2 : M.map (·.1) = (List.range k).map fun i => ofL (decI ((⟨w, n0, n1, n2, n3⟩ : Act5).nth i))) (e : Int)
    (N0 : numS (ofL (decI n0)) = (n0, true)) (N1 : numS (ofL (decI n1)) = (n1, true)) (N2 : numS (ofL (decI n2)) = (n2, true)) (N3 : numS (ofL (decI n3)) = (n3, true)) (Z0 : k ≤ 0 → n0 = 0) (Z1 : k ≤ 1 → n1 = 0) (Z2 : k ≤ 2 → n2 = 0) (Z3 : k ≤ 3 → n3 = 0) :
    actTail k M.length e (actLoop k 0 ⟨w, 0, 0, 0, 0⟩ M) = (⟨w, n0, n1, n2, n3⟩, 0, 0) := by
  obtain ⟨D0, hD0⟩ : ∃ D, ofL (decI n0) = D := ⟨_, rfl⟩
  obtain ⟨D1, hD1⟩ : ∃ D, ofL (decI n1) = D := ⟨_, rfl⟩
  obtain ⟨D2, hD2⟩ : ∃ D, ofL (decI n2) = D := ⟨_, rfl⟩
  obtain ⟨D3, hD3⟩ : ∃ D, ofL (decI n3) = D := ⟨_, rfl⟩
  have hr0 : List.range 0 = [] := rfl
  have hr1 : List.range 1 = [0] := rfl
  have hr2 : List.range 2 = [0, 1] := rfl
  have hr4 : List.range 4 = [0, 1, 2, 3] := rfl
  rcases hk4 with rfl | rfl | rfl | rfl
  · have hM := List.length_eq_zero_iff.1 hlen
    subst hM
    rw [Z0 (Nat.le_refl _), Z1 (by decide), Z2 (by decide), Z3 (by decide)]
    rfl
  · obtain ⟨y0, hM⟩ := list_one hlen
    subst hM
    rw [hr1] at h2
    simp only [List.map_cons, List.map_nil, Act5.nth, hD0, List.cons.injEq, and_true] at h2
    rw [hD0] at N0
    rw [Z1 (by decide), Z2 (by decide), Z3 (by decide)]
    simp [actLoop, h2, N0, actTail, Act5.setN]
  · obtain ⟨y0, y1, hM⟩ := list_two hlen
    subst hM
    rw [hr2] at h2
    simp only [List.map_cons, List.map_nil, Act5.nth, hD0, hD1, List.cons.injEq, and_true] at h2
    rw [hD0] at N0
    rw [hD1] at N1
    rw [Z2 (by decide), Z3 (by decide)]
    simp [actLoop, h2.1, h2.2, N0, N1, actTail, Act5.setN]
  · obtain ⟨y0, y1, y2, y3, hM⟩ := list_four hlen
    subst hM
    rw [hr4] at h2
    simp only [List.map_cons, List.map_nil, Act5.nth, hD0, hD1, hD2, hD3, List.cons.injEq, and_true] at h2
    rw [hD0] at N0
    rw [hD1] at N1
    rw [hD2] at N2
    rw [hD3] at N3
    simp [actLoop, h2.1, h2.2.1, h2.2.2.1, h2.2.2.2, N0, N1, N2, N3, actTail, Act5.setN]
theorem act_dec {x : Act5} (hx : stepS x = 0) (e : Int) : actS (firstP (ofL (lineT x))) (midP (ofL (lineT x))) e = (x, 0, 0) := by
  obtain ⟨k, hk, hn⟩ := stepS_ok hx
  obtain ⟨h1, h2⟩ := line_parts hk
  obtain ⟨_, _, _, hk4⟩ := word_props hk
  have hN : ∀ i, i < 4 → numS (ofL (decI (x.nth i))) = (x.nth i, true) := fun i hi => numS_dec _ (hn i hi).1 (hn i hi).2.1
  have hZ : ∀ i, i < 4 → k ≤ i → x.nth i = 0 := fun i hi hki => by rcases (hn i hi).2.2 with h | h; omega; exact h
  unfold actS
  rw [h1, hk]
  simp only
  have hlen := congrArg List.length h2
  simp only [List.length_map, List.length_range] at hlen
  obtain ⟨w, n0, n1, n2, n3⟩ := x
  have N0 := hN 0 (by omega)
  have N1 := hN 1 (by omega)
  have N2 := hN 2 (by omega)
  have N3 := hN 3 (by omega)
  have Z0 := hZ 0 (by omega)
  have Z1 := hZ 1 (by omega)
  have Z2 := hZ 2 (by omega)
  have Z3 := hZ 3 (by omega)
  simp only [Act5.nth] at N0 N1 N2 N3 Z0 Z1 Z2 Z3
  obtain ⟨M, hM⟩ : ∃ M, midP (ofL (lineT ⟨w, n0, n1, n2, n3⟩)) = M := ⟨_, rfl⟩
  rw [hM] at h2 hlen ⊢
  clear hM h1 hn hN hZ hx
  exact act_list w n0 n1 n2 n3 k hk4 M hlen h2 e N0 N1 N2 N3 Z0 Z1 Z2 Z3

/-! ### a written script -/
theorem no_note (b : UInt8) (l : List UInt8) (h : 97 ≤ b.toNat ∧ b.toNat ≤ 122) : noteS (ofL (b :: l)) = false := by
  have hs : 0 < (ofL (b :: l)).size := by rw [ofL_size]; simp
  have he : ((ofL (b :: l))[0]'hs) = b := rfl
  unfold noteS runes
  rw [runesAt_step _ _ hs, decode_ascii _ 0 hs (by rw [he]; omega), he]
  simp only
  rw [beq_eq_false_iff_ne]
  omega
theorem head_isN (secs : Int) (gs : List (Int × Int)) : isN (headB secs gs) = false := by
  unfold isN
  rw [headB_T, (text_hit _).1]
  exact no_note 112 _ (by decide)
theorem line_isN {x : Act5} (hx : stepS x = 0) : isN (lineB x) = false := by
  obtain ⟨k, hk, _⟩ := stepS_ok hx
  obtain ⟨hb, hne, _, _⟩ := word_props hk
  unfold isN
  rw [lineB_T, (text_hit _).1]
  unfold lineT wordsL
  cases hw : x.word.data.toList with
  | nil => exact absurd hw hne
  | cons b l => exact no_note b _ (hb b (by rw [hw]; exact List.mem_cons_self))
theorem read_lines (gs : List (Int × Int)) (secs : Int) (hg : gs ≠ []) : ∀ (xs pre : List Act5) (n : Int), (∀ x ∈ xs, stepS x = 0) → parseL ⟨gs, secs, pre⟩ n (xs.map lineB) = endS ⟨gs, secs, pre ++ xs⟩ (n + xs.length)
  | [], pre, n, _ => by simp [parseL]
  | x :: xs, pre, n, h => by
    have hx := h x List.mem_cons_self
    have hn := line_isN hx
    unfold isN at hn
    rw [List.map_cons, parseL, if_neg (by rw [hn]; simp)]
    have hl : lineS ⟨gs, secs, pre⟩ (firstP (textOf (lineB x))) (midP (textOf (lineB x))) (endP (textOf (lineB x))) = (⟨gs, secs, pre ++ [x]⟩, 0, 0) := by
      rw [lineB_T, (text_hit _).1]
      unfold lineS
      rw [if_neg hg, act_dec hx]
    rw [hl]
    simp only
    rw [if_neg (by simp), if_pos (by rw [lineB_T]; exact (text_hit _).2), read_lines gs secs hg xs _ _ (fun y hy => h y (List.mem_cons_of_mem _ hy))]
    congr 1
    · simp
    · simp only [List.length_cons]
      omega
def linesW (gs : List (Int × Int)) (secs : Int) (xs : List Act5) : List (List UInt8) := headB secs gs :: xs.map lineB
theorem read_written {gs : List (Int × Int)} {secs : Int} {xs : List Act5} (hr : rightS gs secs xs = 0) (n : Int) : parseL noSc n (linesW gs secs xs) = (⟨gs, secs, xs⟩, 0, 0, 0) := by
  have h := rightP_of hr
  have hg : gs ≠ [] := fun e => by have := h.g1; rw [e] at this; simp at this
  have hn := head_isN secs gs
  unfold isN at hn
  unfold linesW
  rw [parseL, if_neg (by rw [hn]; simp)]
  have hl : lineS noSc (firstP (textOf (headB secs gs))) (midP (textOf (headB secs gs))) (endP (textOf (headB secs gs))) = (⟨gs, secs, []⟩, 0, 0) := by
    rw [headB_T, (text_hit _).1]
    unfold lineS
    rw [if_pos (show noSc.gs = [] from rfl), meas_dec h]
    rfl
  rw [hl]
  simp only
  rw [if_neg (by simp), if_pos (by rw [headB_T]; exact (text_hit _).2), read_lines gs secs hg xs [] _ h.acts, List.nil_append]
  unfold endS
  rw [if_neg (by simpa using hg), if_neg (by simp [hr])]
/-- a line with its end, and no other -/
def Whole (x : List UInt8) : Prop := ∃ z, x = z ++ [10] ∧ (10 : UInt8) ∉ z
theorem Whole.len {x : List UInt8} (h : Whole x) (r : List UInt8) : lineLen (x ++ r) = x.length := by
  obtain ⟨z, rfl, hz⟩ := h
  have : ∀ z : List UInt8, (10 : UInt8) ∉ z → lineLen (z ++ [10] ++ r) = z.length + 1 := fun z => by
    induction z with
    | nil => intro _; simp [lineLen]
    | cons b z ih =>
      intro h
      rw [List.cons_append, List.cons_append, lineLen, if_neg (fun e => h (by simp [e])), ih (fun e => h (List.mem_cons_of_mem _ e)), List.length_cons]
      omega
  rw [this z hz]
  simp
theorem whole_wf : ∀ ls : List (List UInt8), (∀ l ∈ ls, Whole l) → wfL ls
  | [], _ => trivial
  | x :: r, h => by
    have hx := h x List.mem_cons_self
    refine ⟨⟨fun e => ?_, ?_⟩, fun _ => hx.len, whole_wf r fun l hl => h l (List.mem_cons_of_mem _ hl)⟩
    · obtain ⟨z, hz, _⟩ := hx
      rw [hz] at e
      simp at e
    · have := hx.len []
      rwa [List.append_nil] at this
theorem no10_flatten {ls : List (List UInt8)} (h : ∀ l ∈ ls, (10 : UInt8) ∉ l) : (10 : UInt8) ∉ ls.flatten := fun hb => by
  obtain ⟨l, hl, hb⟩ := List.mem_flatten.1 hb
  exact h l hl hb
theorem decI_no10 (n : Int) : (10 : UInt8) ∉ decI n := fun h => by have := (decI_bytes n _ h).1; revert this; decide
theorem whole_head (secs : Int) (gs : List (Int × Int)) : Whole (headB secs gs) := by
  refine ⟨headT secs gs, headB_T secs gs, ?_⟩
  unfold headT wordsL
  intro h
  rcases List.mem_append.1 h with h | h
  · revert h; decide
  · refine no10_flatten (fun l hl => ?_) h
    obtain ⟨D, hD, rfl⟩ := List.mem_map.1 hl
    intro hb
    rcases List.mem_cons.1 hb with hb | hb
    · revert hb; decide
    · rcases List.mem_cons.1 hD with rfl | hD
      · exact decI_no10 _ hb
      · obtain ⟨g, _, rfl⟩ := List.mem_map.1 hD
        rcases List.mem_cons.1 hb with hb | hb
        · split at hb <;> revert hb <;> decide
        · exact decI_no10 _ hb
theorem whole_line {x : Act5} (hx : stepS x = 0) : Whole (lineB x) := by
  obtain ⟨k, hk, _⟩ := stepS_ok hx
  obtain ⟨hb, _, _, _⟩ := word_props hk
  refine ⟨lineT x, lineB_T x, ?_⟩
  unfold lineT wordsL
  intro h
  rcases List.mem_append.1 h with h | h
  · have := (hb _ h).1; revert this; decide
  · refine no10_flatten (fun l hl => ?_) h
    obtain ⟨D, hD, rfl⟩ := List.mem_map.1 hl
    intro hb
    rcases List.mem_cons.1 hb with hb | hb
    · revert hb; decide
    · obtain ⟨i, _, rfl⟩ := List.mem_map.1 hD
      exact decI_no10 _ hb
theorem whole_written {gs : List (Int × Int)} {secs : Int} {xs : List Act5} (hr : rightS gs secs xs = 0) : ∀ l ∈ linesW gs secs xs, Whole l ∧ isN l = false := by
  have h := rightP_of hr
  intro l hl
  rcases List.mem_cons.1 hl with rfl | hl
  · exact ⟨whole_head secs gs, head_isN secs gs⟩
  · obtain ⟨x, hx, rfl⟩ := List.mem_map.1 hl
    exact ⟨whole_line (h.acts x hx), line_isN (h.acts x hx)⟩
theorem writeB_lines (gs : List (Int × Int)) (secs : Int) (xs : List Act5) : writeB gs secs xs = (linesW gs secs xs).flatten := rfl
theorem lines_written {gs : List (Int × Int)} {secs : Int} {xs : List Act5} (hr : rightS gs secs xs = 0) : linesS (writeB gs secs xs) = linesW gs secs xs := by
  rw [writeB_lines]
  exact lines_flatten _ (whole_wf _ fun l hl => (whole_written hr l hl).1)
theorem parse_written {gs : List (Int × Int)} {secs : Int} {xs : List Act5} (hr : rightS gs secs xs = 0) (hz : (writeB gs secs xs).length ≤ 8192) : parseS (ofL (writeB gs secs xs)) = (⟨gs, secs, xs⟩, 0, 0, 0) := by
  unfold parseS
  rw [if_neg (by rw [ofL_size]; omega), ofL_list, lines_written hr]
  exact read_written hr 0

/-! ### .. with notes -/
def sect (more : List UInt8) : List UInt8 := 194 :: 167 :: more ++ [10]
theorem sect_note (more : List UInt8) : isN (sect more) = true := by
  unfold isN sect
  rw [(text_hit _).1]
  have hs : 0 < (ofL (194 :: 167 :: more)).size := by rw [ofL_size]; simp
  have hd : (Utf8.decode (ofL (194 :: 167 :: more)) 0).1 = 167 := by
    have hs1 : 0 + 1 < (ofL (194 :: 167 :: more)).size := by rw [ofL_size]; simp
    have g0 : (ofL (194 :: 167 :: more)).get! (0 + 0) = 194 := by rfl
    have g1 : (ofL (194 :: 167 :: more)).get! (0 + 1) = 167 := by rfl
    unfold Utf8.decode
    simp only [g0, g1]
    simp [hs1]
  unfold noteS runes
  rw [runesAt_step _ _ hs, hd]
  rfl
theorem whole_sect {more : List UInt8} (h : (10 : UInt8) ∉ more) : Whole (sect more) :=
  ⟨194 :: 167 :: more, rfl, fun hb => by
    rcases List.mem_cons.1 hb with hb | hb
    · revert hb; decide
    · rcases List.mem_cons.1 hb with hb | hb
      · revert hb; decide
      · exact h hb⟩
/-- the text with a note behind each line's end at an even place -/
def insN (more : List UInt8) : Nat → List UInt8 → List UInt8
  | _, [] => []
  | i, b :: r => b :: (if b = 10 ∧ i % 2 = 0 then sect (32 :: more) else []) ++ insN more (i + 1) r
def insL (more : List UInt8) : Nat → List (List UInt8) → List (List UInt8)
  | _, [] => []
  | i, l :: r => (if (i + l.length - 1) % 2 = 0 then [l, sect (32 :: more)] else [l]) ++ insL more (i + l.length) r
theorem insN_line (more : List UInt8) : ∀ (z : List UInt8) (i : Nat) (r : List UInt8), (10 : UInt8) ∉ z → insN more i (z ++ [10] ++ r) = z ++ [10] ++ (if (i + z.length) % 2 = 0 then sect (32 :: more) else []) ++ insN more (i + z.length + 1) r
  | [], i, r, _ => by
    rw [List.nil_append, List.singleton_append, insN]
    simp
  | b :: z, i, r, h => by
    have hb : ¬ b = 10 := fun e => h (by simp [e])
    have ih := insN_line more z (i + 1) r (fun e => h (List.mem_cons_of_mem _ e))
    rw [List.cons_append, List.cons_append, insN, if_neg (fun e => hb e.1), ih, List.length_cons]
    have e1 : i + 1 + z.length = i + (z.length + 1) := by omega
    rw [e1]
    simp
theorem insN_lines (more : List UInt8) : ∀ (ls : List (List UInt8)) (i : Nat), (∀ l ∈ ls, Whole l) → insN more i ls.flatten = (insL more i ls).flatten
  | [], i, _ => rfl
  | l :: r, i, h => by
    obtain ⟨z, hz, hn⟩ := h l List.mem_cons_self
    rw [List.flatten_cons, hz, insN_line more z i _ hn, insL, List.flatten_append, List.length_append, List.length_singleton]
    have e1 : i + (z.length + 1) - 1 = i + z.length := by omega
    have e2 : i + z.length + 1 = i + (z.length + 1) := by omega
    rw [e1, e2, insN_lines more r _ fun l hl => h l (List.mem_cons_of_mem _ hl)]
    congr 1
    split <;> simp
theorem insL_whole {more : List UInt8} (hm : (10 : UInt8) ∉ more) : ∀ (ls : List (List UInt8)) (i : Nat), (∀ l ∈ ls, Whole l) → ∀ l ∈ insL more i ls, Whole l
  | [], i, _, l, hl => by cases hl
  | x :: r, i, h, l, hl => by
    rw [insL] at hl
    rcases List.mem_append.1 hl with hl | hl
    · have hs : Whole (sect (32 :: more)) := whole_sect (fun hb => by
        rcases List.mem_cons.1 hb with hb | hb
        · revert hb; decide
        · exact hm hb)
      split at hl
      · rcases List.mem_cons.1 hl with rfl | hl
        · exact h _ List.mem_cons_self
        · rw [List.mem_singleton.1 hl]; exact hs
      · rw [List.mem_singleton.1 hl]; exact h _ List.mem_cons_self
    · exact insL_whole hm r _ (fun l hl => h l (List.mem_cons_of_mem _ hl)) l hl
theorem keep_insL (more : List UInt8) : ∀ (ls : List (List UInt8)) (i : Nat), (∀ l ∈ ls, isN l = false) → keepL (insL more i ls) = ls
  | [], i, _ => rfl
  | x :: r, i, h => by
    have hx := h x List.mem_cons_self
    have ih := keep_insL more r (i + x.length) fun l hl => h l (List.mem_cons_of_mem _ hl)
    unfold keepL at ih ⊢
    rw [insL, List.filter_append, ih]
    split
    · simp [hx, sect_note]
    · simp [hx]
def notedL (more : List UInt8) (ls : List (List UInt8)) : List (List UInt8) := sect more :: [10] :: insL more 0 ls
def notedB (more t : List UInt8) : List UInt8 := sect more ++ [10] ++ insN more 0 t
theorem nl_note : isN [10] = true := by decide
theorem keep_noted (more : List UInt8) (ls : List (List UInt8)) (h : ∀ l ∈ ls, isN l = false) : keepL (notedL more ls) = ls := by
  have := keep_insL more ls 0 h
  unfold keepL at this ⊢
  unfold notedL
  rw [List.filter_cons, if_neg (by rw [sect_note]; simp), List.filter_cons, if_neg (by rw [nl_note]; simp), this]
theorem lines_noted {more : List UInt8} (hm : (10 : UInt8) ∉ more) (ls : List (List UInt8)) (h : ∀ l ∈ ls, Whole l) : linesS (notedB more ls.flatten) = notedL more ls := by
  have e : notedB more ls.flatten = (notedL more ls).flatten := by
    unfold notedB notedL
    rw [insN_lines more ls 0 h]
    simp
  rw [e]
  refine lines_flatten _ (whole_wf _ fun l hl => ?_)
  rcases List.mem_cons.1 hl with rfl | hl
  · exact whole_sect hm
  · rcases List.mem_cons.1 hl with rfl | hl
    · exact ⟨[], rfl, by simp⟩
    · exact insL_whole hm ls 0 h l hl
theorem back_plain {gs : List (Int × Int)} {secs : Int} {xs : List Act5} (hr : rightS gs secs xs = 0) {more : List UInt8} (hm : (10 : UInt8) ∉ more) (hz : (notedB more (writeB gs secs xs)).length ≤ 8192) :
    parseS (ofL (notedB more (writeB gs secs xs))) = (⟨gs, secs, xs⟩, 0, 0, 0) ∧ notesB (linesS (notedB more (writeB gs secs xs))) = writeB gs secs xs ∧ 2 ≤ notesC (linesS (notedB more (writeB gs secs xs))) := by
  have hw := whole_written hr
  have hl : linesS (notedB more (writeB gs secs xs)) = notedL more (linesW gs secs xs) := by
    rw [writeB_lines]
    exact lines_noted hm _ fun l hl => (hw l hl).1
  have hk := keep_noted more (linesW gs secs xs) fun l hl => (hw l hl).2
  refine ⟨?_, ?_, ?_⟩
  · unfold parseS
    rw [if_neg (by rw [ofL_size]; omega), ofL_list, hl]
    have h1 := parseL_keep (notedL more (linesW gs secs xs)) noSc 0 0
    rw [hk, read_written hr] at h1
    obtain ⟨⟨S, a, b, e⟩, hT⟩ : ∃ T, parseL noSc 0 (notedL more (linesW gs secs xs)) = T := ⟨_, rfl⟩
    rw [hT] at h1 ⊢
    simp only at h1
    obtain ⟨rfl, rfl⟩ := h1
    obtain ⟨rfl, rfl, _⟩ := read_all _ _ _ _ _ _ hT rfl
    rfl
  · rw [hl]
    show (keepL (notedL more (linesW gs secs xs))).flatten = _
    rw [hk, writeB_lines]
  · rw [hl]
    unfold notesC notedL
    rw [List.filter_cons, if_pos (sect_note more), List.filter_cons, if_pos nl_note]
    simp
theorem insN_len (more : List UInt8) : ∀ (t : List UInt8) (i : Nat), t.length ≤ (insN more i t).length
  | [], _ => by simp [insN]
  | b :: r, i => by
    have := insN_len more r (i + 1)
    rw [insN]
    simp only [List.length_append, List.length_cons, List.cons_append]
    omega

end Go.Proofs.Ytajionjffijffaa

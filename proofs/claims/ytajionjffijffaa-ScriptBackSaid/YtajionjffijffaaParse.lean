/-
  script.Parse: a script, read.
-/
import Derived.Test.YtajionjffijffaaLine
import Derived.Test.YtajionjffijffaaLns
import Derived.Test.YtajionjffijffaaReg
namespace Go.Proofs.Ytajionjffijffaa
open Go.RowKit Go.Sort
attribute [local go_sem] Oper.semAt_some

def noSc : ScS := ⟨[], 0, []⟩
/-- what comes of a script's lines -/
abbrev PRes := ScS × Int × Int × Int
def endS (s : ScS) (n : Int) : PRes :=
  if s.gs = [] then (noSc, n + 1, 1, 2)
  else if rightS s.gs s.secs s.xs ≠ 0 then (noSc, 0, 0, rightS s.gs s.secs s.xs) else (s, 0, 0, 0)
def textOf (x : List UInt8) : ByteArray := ofL (Lib.trimSuffix x [10])
def endedOf (x : List UInt8) : Bool := Lib.hasSuffix x [10]
/-- the parts of a line: the first one, those between, the place behind the last -/
def firstP (s : ByteArray) : ByteArray := ((partsS s).headD (⟨#[]⟩, 0)).1
def midP (s : ByteArray) : List (ByteArray × Int) := (partsS s).tail.dropLast
def endP (s : ByteArray) : Int := ((partsS s).getLastD (⟨#[]⟩, 0)).2
def parseL : ScS → Int → List (List UInt8) → PRes
  | s, n, [] => endS s n
  | s, n, x :: rest =>
    if noteS (textOf x) = true then parseL s (n + 1) rest
    else
      let r := lineS s (firstP (textOf x)) (midP (textOf x)) (endP (textOf x))
      if r.2.2 ≠ 0 then (noSc, n + 1, r.2.1, r.2.2)
      else if endedOf x = true then parseL r.1 (n + 1) rest
      else (noSc, n + 1, endP (textOf x), 2)
def parseS (t : ByteArray) : PRes := if 8192 < t.size then (noSc, 0, 0, 10) else parseL noSc 0 (linesS t.data.toList)

theorem parts_form (s : ByteArray) : ∃ p0 pe, partsS s = p0 :: (midP s ++ [pe]) ∧ p0.1 = firstP s ∧ pe.2 = endP s := by
  have hne : ∀ (rs : List Nat) (st : PState), st.1 ≠ [] → (pfold st rs).1 ≠ [] := fun rs => by
    induction rs with
    | nil => exact fun st h => h
    | cons r rs ih =>
      intro st h
      refine ih (pstep st r) ?_
      unfold pstep
      split <;> simp
  have h1 := hne (runes s) pstart (by simp [pstart])
  unfold midP firstP endP partsS
  obtain ⟨st, hst⟩ : ∃ st, pfold pstart (runes s) = st := ⟨_, rfl⟩
  rw [hst] at h1 ⊢
  obtain ⟨l, a⟩ := st
  simp only at h1 ⊢
  cases l with
  | nil => exact absurd rfl h1
  | cons p l =>
    refine ⟨p, (⟨#[]⟩, a + 1), by simp, by simp, ?_⟩
    rw [List.getLastD_concat]

/-! ### how much there is -/
theorem linesS_len (l : List UInt8) : (linesS l).length ≤ l.length := by
  have h : ∀ (f : Nat) (l : List UInt8), (linesF f l).length ≤ f := fun f => by
    induction f with
    | zero => intro l; simp [linesF]
    | succ f ih =>
      intro l
      rw [linesF]
      split
      · simp
      · have := ih (l.drop (lineLen l))
        simp only [List.length_cons]
        omega
  exact h _ l
theorem linesS_mem : ∀ (f : Nat) (l x : List UInt8), x ∈ linesF f l → x.length ≤ l.length
  | 0, l, x, h => by simp [linesF] at h
  | f + 1, l, x, h => by
    rw [linesF] at h
    split at h
    · simp at h
    · rcases List.mem_cons.1 h with rfl | h
      · rw [List.length_take]; omega
      · have := linesS_mem f _ x h
        rw [List.length_drop] at this
        omega
theorem trim_len (x : List UInt8) : (textOf x).size ≤ x.length := by
  unfold textOf Lib.trimSuffix
  rw [ofL_size]
  split
  · rw [List.length_take]; omega
  · omega
theorem runesF_len (s : ByteArray) : ∀ f i : Nat, (runesF s f i).length ≤ f
  | 0, _ => by simp [runesF]
  | f + 1, i => by
    rw [runesF]
    split
    · have := runesF_len s f (i + (Utf8.decode s i).2)
      simp only [List.length_cons]
      omega
    · simp
theorem pfold_len : ∀ (rs : List Nat) (st : PState), (pfold st rs).1.length ≤ st.1.length + rs.length + 1
  | [], st => by simp [pfold]
  | r :: rs, st => by
    have h := pfold_len rs (pstep st r)
    have h2 : (pstep st r).1.length ≤ st.1.length + 1 := by
      unfold pstep
      split
      · simp
      · simp only [List.length_append, List.length_dropLast, List.length_singleton]; omega
    have e : pfold st (r :: rs) = pfold (pstep st r) rs := rfl
    have h3 : ∀ (rs : List Nat) (st : PState), st.1 ≠ [] → (pfold st rs).1.length ≤ st.1.length + rs.length := fun rs => by
      induction rs with
      | nil => intro st _; simp [pfold]
      | cons r rs ih =>
        intro st hst
        have := ih (pstep st r) (by unfold pstep; split <;> simp)
        have h2 : (pstep st r).1.length ≤ st.1.length + 1 := by
          unfold pstep
          split
          · simp
          · simp only [List.length_append, List.length_dropLast, List.length_singleton]; omega
        have e : pfold st (r :: rs) = pfold (pstep st r) rs := rfl
        rw [e, List.length_cons]
        omega
    have h4 := h3 rs (pstep st r) (by unfold pstep; split <;> simp)
    rw [e, List.length_cons]
    omega
theorem midP_len (s : ByteArray) : (midP s).length ≤ s.size + 1 := by
  obtain ⟨p0, pe, h, _, _⟩ := parts_form s
  have h1 := congrArg List.length h
  have h2 := pfold_len (runes s) pstart
  have h3 : (runes s).length ≤ s.size := runesF_len s s.size 0
  unfold partsS at h1
  simp only [List.length_append, List.length_cons, List.length_nil] at h1
  have h4 : pstart.1.length = 1 := rfl
  omega
theorem measLoop_len : ∀ (ys : List (ByteArray × Int)) (gs gs' : List (Int × Int)), measLoop gs ys = .inr gs' → gs'.length ≤ gs.length + ys.length
  | [], gs, gs', h => by rw [measLoop] at h; cases h; simp
  | y :: ys, gs, gs', h => by
    rw [measLoop] at h
    split at h
    · have := measLoop_len ys _ _ h
      simp at this ⊢
      omega
    · cases h
theorem measS_len (w0 : ByteArray) (mid : List (ByteArray × Int)) (e : Int) : (measS w0 mid e).1.gs.length ≤ mid.length := by
  unfold measS
  split
  · simp [noGeo]
  · split
    · simp [noGeo]
    · rename_i y ys
      split
      · cases h : measLoop [] ys with
        | inl a => simp [measTail, noGeo]
        | inr gs =>
          have := measLoop_len ys [] gs h
          cases gs with
          | nil => simp [measTail, noGeo]
          | cons g gs => simp only [measTail, List.length_cons] at this ⊢; simp at this; omega
      · simp [noGeo]
theorem lineS_len (s : ScS) (w0 : ByteArray) (mid : List (ByteArray × Int)) (e : Int) (M : Nat) (hs : s.gs.length ≤ M) (hm : mid.length ≤ M) : (lineS s w0 mid e).1.gs.length ≤ M ∧ (lineS s w0 mid e).1.xs.length ≤ s.xs.length + 1 := by
  unfold lineS
  split
  · have := measS_len w0 mid e
    exact ⟨by simp only; omega, by simp only; omega⟩
  · exact ⟨by simp only; omega, by simp⟩

theorem SM.off {W W' : World} {B b : Nat} {s : ScS} (h : SM W B b s) {X : Nat → Prop} (ho : Off X W W') (hb : ¬ X b) (hB : ∀ k, B ≤ k → ¬ X k) : SM W' B b s := by
  obtain ⟨vG, vL, h1, h2, h3⟩ := h.ex
  have hbl := (Array.getElem?_eq_some_iff.1 h1).1
  exact ⟨vG, vL, (ho.same b hb hbl).trans h1, ownsRow_off h2 (fun k hk => ho.same k (hB k (h2.lt k hk).1) (h2.lt k hk).2), ownsRow_off h3 (fun k hk => ho.same k (hB k (h3.lt k hk).1) (h3.lt k hk).2)⟩
theorem Off.none {W W' : World} (h : Below W.heap.size W W') : Off (fun _ => False) W W' := Off.of_below h

theorem heap_at (w : World) (os : List Obj) (k : Nat) : (os.foldl World.alloc w).heap[w.heap.size + k]? = os[k]? := by
  rw [fold_gr]
  simp only [gr, grow, redrawn]
  rw [Array.getElem?_append_right (by show w.heap.size ≤ _; omega)]
  show os.toArray[w.heap.size + k - w.heap.size]? = _
  rw [Nat.add_sub_cancel_left]
  simp
/-- what lies in memory between two lines -/
structure PI (w : World) (n : Int) (s : ScS) (W : World) : Prop where
  bel : Below w.heap.size w W
  h1 : W.heap[w.heap.size]? = some (.cells #[.slice none 0 0, .int .i64 0, .slice none 0 0] 28 (0, 0))
  h2 : W.heap[w.heap.size + 1]? = some (.cells #[.int .i64 0] 3 (0, 0))
  h3 : W.heap[w.heap.size + 1 + 1]? = some (.cells #[.int .i64 0] 3 (0, 0))
  h4 : W.heap[w.heap.size + 1 + 1 + 1]? = some (.cells #[.int .i64 0] 29 (0, 0))
  sm : SM W (w.heap.size + 9) (w.heap.size + 1 + 1 + 1 + 1) s
  hn : W.heap[w.heap.size + 1 + 1 + 1 + 1 + 1]? = some (.cells #[.int .i64 n] 3 (0, 0))
theorem PI.off {w W W' : World} {n : Int} {s : ScS} (h : PI w n s W) {X : Nat → Prop} (ho : Off X W W') (hX : ∀ k, X k → w.heap.size + 6 ≤ k ∧ k < w.heap.size + 9) : PI w n s W' := by
  have l1 := (Array.getElem?_eq_some_iff.1 h.hn).1
  have hx : ∀ k, k < w.heap.size + 6 → W'.heap[k]? = W.heap[k]? := fun k hk => ho.same k (fun e => by have := hX k e; omega) (by omega)
  refine ⟨h.bel.trans ⟨ho.base.os, ho.base.tape, ho.base.output, ho.size, fun k hk => hx k (by omega)⟩, (hx _ (by omega)).trans h.h1, (hx _ (by omega)).trans h.h2, (hx _ (by omega)).trans h.h3, (hx _ (by omega)).trans h.h4,
    h.sm.off ho (fun e => by have := hX _ e; omega) (fun k hk e => by have := hX k e; omega), (hx _ (by omega)).trans h.hn⟩
theorem PI.grown {w W W' : World} {n : Int} {s : ScS} (h : PI w n s W) (hb : Below W.heap.size W W') : PI w n s W' := h.off (Off.none hb) (fun _ e => e.elim)
theorem PI.next {w W : World} {n : Int} {s : ScS} (h : PI w n s W) (n' : Int) : PI w n' s (W.setCell ⟨w.heap.size + 1 + 1 + 1 + 1 + 1, 0, none⟩ (.int .i64 n')) := by
  have hx : ∀ k, k ≠ w.heap.size + 1 + 1 + 1 + 1 + 1 → (W.setCell ⟨w.heap.size + 1 + 1 + 1 + 1 + 1, 0, none⟩ (.int .i64 n')).heap[k]? = W.heap[k]? := fun k hk => Below.heap_setCell _ _ _ _ hk
  refine ⟨Below.setCell h.bel (by show w.heap.size ≤ w.heap.size + 1 + 1 + 1 + 1 + 1; omega) _, (hx _ (by omega)).trans h.h1, (hx _ (by omega)).trans h.h2, (hx _ (by omega)).trans h.h3, (hx _ (by omega)).trans h.h4,
    h.sm.off (Off.setCell (X := fun k => k = w.heap.size + 1 + 1 + 1 + 1 + 1) (Off.refl _ _) (p := ⟨w.heap.size + 1 + 1 + 1 + 1 + 1, 0, none⟩) rfl _) (by omega) (fun k hk => by omega), heap_set_cells h.hn _⟩
theorem PI.line {w W W' : World} {n : Int} {s s' : ScS} (h : PI w n s W) (hs : SM W' (w.heap.size + 9) (w.heap.size + 1 + 1 + 1 + 1) s') (ho : Off (fun k => k = w.heap.size + 1 + 1 + 1 + 1 ∨ isStep W (w.heap.size + 9) k) W W') : PI w n s' W' := by
  have l1 := (Array.getElem?_eq_some_iff.1 h.hn).1
  have hx : ∀ k, k < w.heap.size + 6 → k ≠ w.heap.size + 1 + 1 + 1 + 1 → W'.heap[k]? = W.heap[k]? := fun k hk hne => ho.same k (fun e => by rcases e with e | e; exact hne e; have := e.1; omega) (by omega)
  exact ⟨h.bel.trans ⟨ho.base.os, ho.base.tape, ho.base.output, ho.size, fun k hk => hx k (by omega) (by omega)⟩, (hx _ (by omega) (by omega)).trans h.h1, (hx _ (by omega) (by omega)).trans h.h2, (hx _ (by omega) (by omega)).trans h.h3, (hx _ (by omega) (by omega)).trans h.h4, hs, (hx _ (by omega) (by omega)).trans h.hn⟩
/-- .. behind a return out of the loop -/
structure PX (w : World) (r : PRes) (W : World) : Prop where
  bel : Below w.heap.size w W
  no : r.1 = noSc
  h1 : W.heap[w.heap.size]? = some (.cells #[.slice none 0 0, .int .i64 0, .slice none 0 0] 28 (0, 0))
  h2 : W.heap[w.heap.size + 1]? = some (.cells #[.int .i64 r.2.1] 3 (0, 0))
  h3 : W.heap[w.heap.size + 1 + 1]? = some (.cells #[.int .i64 r.2.2.1] 3 (0, 0))
  h4 : W.heap[w.heap.size + 1 + 1 + 1]? = some (.cells #[.int .i64 r.2.2.2] 29 (0, 0))
theorem PX.off {w W W' : World} {r : PRes} (h : PX w r W) {X : Nat → Prop} (ho : Off X W W') (hX : ∀ k, X k → w.heap.size + 6 ≤ k) : PX w r W' := by
  have l1 := (Array.getElem?_eq_some_iff.1 h.h4).1
  have hx : ∀ k, k < w.heap.size + 4 → W'.heap[k]? = W.heap[k]? := fun k hk => ho.same k (fun e => by have := hX k e; omega) (by omega)
  exact ⟨h.bel.trans ⟨ho.base.os, ho.base.tape, ho.base.output, ho.size, fun k hk => hx k (by omega)⟩, h.no, (hx _ (by omega)).trans h.h1, (hx _ (by omega)).trans h.h2, (hx _ (by omega)).trans h.h3, (hx _ (by omega)).trans h.h4⟩

/-- the four boxes of the results, while an error is being written into them -/
structure BX (w W5 W : World) (v1 v2 v3 : Int) (b1 b2 b3 : Prop) : Prop where
  off : Off (fun k => w.heap.size ≤ k ∧ k < w.heap.size + 4) W5 W
  h1 : W.heap[w.heap.size]? = some (.cells #[.slice none 0 0, .int .i64 0, .slice none 0 0] 28 (0, 0))
  h2 : ∃ n1, W.heap[w.heap.size + 1]? = some (.cells #[.int .i64 n1] 3 (0, 0)) ∧ (b1 → n1 = v1)
  h3 : ∃ n2, W.heap[w.heap.size + 1 + 1]? = some (.cells #[.int .i64 n2] 3 (0, 0)) ∧ (b2 → n2 = v2)
  h4 : ∃ n3, W.heap[w.heap.size + 1 + 1 + 1]? = some (.cells #[.int .i64 n3] 29 (0, 0)) ∧ (b3 → n3 = v3)
theorem BX.start {w W5 : World} {n : Int} {s : ScS} (h : PI w n s W5) (v1 v2 v3 : Int) : BX w W5 W5.drew v1 v2 v3 False False False :=
  ⟨Off.of_below ⟨rfl, rfl, rfl, Nat.le_refl _, fun _ _ => rfl⟩, h.h1, ⟨0, h.h2, False.elim⟩, ⟨0, h.h3, False.elim⟩, ⟨0, h.h4, False.elim⟩⟩
theorem BX.start0 {w W5 : World} {n : Int} {s : ScS} (h : PI w n s W5) (v1 v2 v3 : Int) : BX w W5 W5 v1 v2 v3 False False False :=
  ⟨Off.refl _ _, h.h1, ⟨0, h.h2, False.elim⟩, ⟨0, h.h3, False.elim⟩, ⟨0, h.h4, False.elim⟩⟩
theorem BX.drew {w W5 W : World} {v1 v2 v3 : Int} {b1 b2 b3 : Prop} (h : BX w W5 W v1 v2 v3 b1 b2 b3) : BX w W5 W.drew v1 v2 v3 b1 b2 b3 :=
  ⟨h.off.trans (Off.of_below ⟨rfl, rfl, rfl, Nat.le_refl _, fun _ _ => rfl⟩), h.h1, h.h2, h.h3, h.h4⟩
theorem BX.gr {w W5 W : World} {v1 v2 v3 : Int} {b1 b2 b3 : Prop} (h : BX w W5 W v1 v2 v3 b1 b2 b3) (g : Gr) : BX w W5 (Go.Proofs.Ytajionjffijffaa.gr W g) v1 v2 v3 b1 b2 b3 := by
  obtain ⟨o, h1, ⟨n1, a1, a2⟩, ⟨n2, a3, a4⟩, ⟨n3, a5, a6⟩⟩ := h
  have hx : ∀ k o, W.heap[k]? = some o → (Go.Proofs.Ytajionjffijffaa.gr W g).heap[k]? = some o := fun k o hk => by
    rw [gr_heap _ _ (Array.getElem?_eq_some_iff.1 hk).1]
    exact hk
  exact ⟨o.trans (Off.of_below (below_gr _ _)), hx _ _ h1, ⟨n1, hx _ _ a1, a2⟩, ⟨n2, hx _ _ a3, a4⟩, ⟨n3, hx _ _ a5, a6⟩⟩
theorem BX.mono {w W5 W : World} {v1 v2 v3 : Int} {b1 b2 b3 c1 c2 c3 : Prop} (h : BX w W5 W v1 v2 v3 b1 b2 b3) (g1 : c1 → b1) (g2 : c2 → b2) (g3 : c3 → b3) : BX w W5 W v1 v2 v3 c1 c2 c3 := by
  obtain ⟨o, h1, ⟨n1, a1, a2⟩, ⟨n2, a3, a4⟩, ⟨n3, a5, a6⟩⟩ := h
  exact ⟨o, h1, ⟨n1, a1, fun h => a2 (g1 h)⟩, ⟨n2, a3, fun h => a4 (g2 h)⟩, ⟨n3, a5, fun h => a6 (g3 h)⟩⟩
theorem BX.set0 {w W5 W : World} {v1 v2 v3 : Int} {b1 b2 b3 : Prop} (h : BX w W5 W v1 v2 v3 b1 b2 b3) :
    BX w W5 (((W.setCell ⟨w.heap.size, 0, none⟩ (.slice none 0 0)).setCell ⟨w.heap.size, 1, none⟩ (.int .i64 0)).setCell ⟨w.heap.size, 2, none⟩ (.slice none 0 0)) v1 v2 v3 b1 b2 b3 := by
  obtain ⟨o, h1, ⟨n1, a1, a2⟩, ⟨n2, a3, a4⟩, ⟨n3, a5, a6⟩⟩ := h
  have hx : ∀ k, k ≠ w.heap.size → (((W.setCell ⟨w.heap.size, 0, none⟩ (.slice none 0 0)).setCell ⟨w.heap.size, 1, none⟩ (.int .i64 0)).setCell ⟨w.heap.size, 2, none⟩ (.slice none 0 0)).heap[k]? = W.heap[k]? := fun k hk => by
    rw [Below.heap_setCell _ _ _ _ (by exact hk), Below.heap_setCell _ _ _ _ (by exact hk), Below.heap_setCell _ _ _ _ (by exact hk)]
  exact ⟨Off.setCell (Off.setCell (Off.setCell o (p := ⟨w.heap.size, 0, none⟩) (by simp) _) (p := ⟨w.heap.size, 1, none⟩) (by simp) _) (p := ⟨w.heap.size, 2, none⟩) (by simp) _,
    heap_set_cells (heap_set_cells (heap_set_cells h1 _) _) _, ⟨n1, (hx _ (by omega)).trans a1, a2⟩, ⟨n2, (hx _ (by omega)).trans a3, a4⟩, ⟨n3, (hx _ (by omega)).trans a5, a6⟩⟩
theorem BX.set1 {w W5 W : World} {v1 v2 v3 : Int} {b1 b2 b3 : Prop} (h : BX w W5 W v1 v2 v3 b1 b2 b3) : BX w W5 (W.setCell ⟨w.heap.size + 1, 0, none⟩ (.int .i64 v1)) v1 v2 v3 True b2 b3 := by
  obtain ⟨o, h1, ⟨n1, a1, a2⟩, ⟨n2, a3, a4⟩, ⟨n3, a5, a6⟩⟩ := h
  have hx : ∀ k, k ≠ w.heap.size + 1 → (W.setCell ⟨w.heap.size + 1, 0, none⟩ (.int .i64 v1)).heap[k]? = W.heap[k]? := fun k hk => Below.heap_setCell _ _ _ _ (by exact hk)
  exact ⟨Off.setCell o (p := ⟨w.heap.size + 1, 0, none⟩) (by simp) _, (hx _ (by omega)).trans h1, ⟨v1, heap_set_cells a1 _, fun _ => rfl⟩, ⟨n2, (hx _ (by omega)).trans a3, a4⟩, ⟨n3, (hx _ (by omega)).trans a5, a6⟩⟩
theorem BX.set2 {w W5 W : World} {v1 v2 v3 : Int} {b1 b2 b3 : Prop} (h : BX w W5 W v1 v2 v3 b1 b2 b3) : BX w W5 (W.setCell ⟨w.heap.size + 1 + 1, 0, none⟩ (.int .i64 v2)) v1 v2 v3 b1 True b3 := by
  obtain ⟨o, h1, ⟨n1, a1, a2⟩, ⟨n2, a3, a4⟩, ⟨n3, a5, a6⟩⟩ := h
  have hx : ∀ k, k ≠ w.heap.size + 1 + 1 → (W.setCell ⟨w.heap.size + 1 + 1, 0, none⟩ (.int .i64 v2)).heap[k]? = W.heap[k]? := fun k hk => Below.heap_setCell _ _ _ _ (by exact hk)
  exact ⟨Off.setCell o (p := ⟨w.heap.size + 1 + 1, 0, none⟩) (by simp; omega) _, (hx _ (by omega)).trans h1, ⟨n1, (hx _ (by omega)).trans a1, a2⟩, ⟨v2, heap_set_cells a3 _, fun _ => rfl⟩, ⟨n3, (hx _ (by omega)).trans a5, a6⟩⟩
theorem BX.set3 {w W5 W : World} {v1 v2 v3 : Int} {b1 b2 b3 : Prop} (h : BX w W5 W v1 v2 v3 b1 b2 b3) : BX w W5 (W.setCell ⟨w.heap.size + 1 + 1 + 1, 0, none⟩ (.int .i64 v3)) v1 v2 v3 b1 b2 True := by
  obtain ⟨o, h1, ⟨n1, a1, a2⟩, ⟨n2, a3, a4⟩, ⟨n3, a5, a6⟩⟩ := h
  have hx : ∀ k, k ≠ w.heap.size + 1 + 1 + 1 → (W.setCell ⟨w.heap.size + 1 + 1 + 1, 0, none⟩ (.int .i64 v3)).heap[k]? = W.heap[k]? := fun k hk => Below.heap_setCell _ _ _ _ (by exact hk)
  exact ⟨Off.setCell o (p := ⟨w.heap.size + 1 + 1 + 1, 0, none⟩) (by simp; omega) _, (hx _ (by omega)).trans h1, ⟨n1, (hx _ (by omega)).trans a1, a2⟩, ⟨n2, (hx _ (by omega)).trans a3, a4⟩, ⟨v3, heap_set_cells a5 _, fun _ => rfl⟩⟩
/-- what the walk of one operation wants of the memory -/
structure BXW (w W : World) (n : Int) : Prop where
  c5 : W.cell? ⟨w.heap.size + 1 + 1 + 1 + 1 + 1, 0, none⟩ = some (.int .i64 n)
  f0 : W.frozen? ⟨w.heap.size, 0, none⟩ = false
  f1 : W.frozen? ⟨w.heap.size, 1, none⟩ = false
  f2 : W.frozen? ⟨w.heap.size, 2, none⟩ = false
  f3 : W.frozen? ⟨w.heap.size + 1, 0, none⟩ = false
  f4 : W.frozen? ⟨w.heap.size + 1 + 1, 0, none⟩ = false
  f5 : W.frozen? ⟨w.heap.size + 1 + 1 + 1, 0, none⟩ = false
  r0 : W.cell? ⟨w.heap.size, 0, none⟩ = some (.slice none 0 0)
  r1 : W.cell? ⟨w.heap.size, 1, none⟩ = some (.int .i64 0)
  r2 : W.cell? ⟨w.heap.size, 2, none⟩ = some (.slice none 0 0)
  r3 : ∃ n1, W.cell? ⟨w.heap.size + 1, 0, none⟩ = some (.int .i64 n1)
  r4 : ∃ n1, W.cell? ⟨w.heap.size + 1 + 1, 0, none⟩ = some (.int .i64 n1)
  r5 : ∃ n1, W.cell? ⟨w.heap.size + 1 + 1 + 1, 0, none⟩ = some (.int .i64 n1)
theorem BX.walk {w W5 W : World} {n : Int} {s : ScS} {v1 v2 v3 : Int} {b1 b2 b3 : Prop} (h : BX w W5 W v1 v2 v3 b1 b2 b3) (hP : PI w n s W5) : BXW w W n := by
  obtain ⟨o, h1, ⟨n1, a1, a2⟩, ⟨n2, a3, a4⟩, ⟨n3, a5, a6⟩⟩ := h
  have hn := (o.same _ (by omega) (Array.getElem?_eq_some_iff.1 hP.hn).1).trans hP.hn
  exact ⟨by rw [cell_of_row W _ 0 _ _ _ hn]; rfl, frozen_of_row h1 0, frozen_of_row h1 1, frozen_of_row h1 2, frozen_of_row a1 0, frozen_of_row a3 0, frozen_of_row a5 0,
    by rw [cell_of_row W _ 0 _ _ _ h1]; rfl, by rw [cell_of_row W _ 1 _ _ _ h1]; rfl, by rw [cell_of_row W _ 2 _ _ _ h1]; rfl,
    ⟨n1, by rw [cell_of_row W _ 0 _ _ _ a1]; rfl⟩, ⟨n2, by rw [cell_of_row W _ 0 _ _ _ a3]; rfl⟩, ⟨n3, by rw [cell_of_row W _ 0 _ _ _ a5]; rfl⟩⟩
theorem BX.px {w W5 W : World} {n : Int} {s : ScS} {v1 v2 v3 : Int} {b1 b2 b3 : Prop} (h : BX w W5 W v1 v2 v3 b1 b2 b3) (hP : PI w n s W5) (e1 : b1) (e2 : b2) (e3 : b3) : PX w (noSc, v1, v2, v3) W := by
  obtain ⟨o, h1, ⟨n1, a1, a2⟩, ⟨n2, a3, a4⟩, ⟨n3, a5, a6⟩⟩ := h
  obtain rfl := a2 e1
  obtain rfl := a4 e2
  obtain rfl := a6 e3
  have l1 := (Array.getElem?_eq_some_iff.1 hP.hn).1
  exact ⟨hP.bel.trans ⟨o.base.os, o.base.tape, o.base.output, o.size, fun k hk => o.same k (by omega) (by omega)⟩, rfl, h1, a1, a3, a5⟩

theorem results_parse {fn : Func} {p q r u : Tmp} (h : fn.results = #[.cell p 28, .cell q 3, .cell r 3, .cell u 29]) (tmps : Array Value) (w : World) (z z1 z2 z3 : Nat) (x y s : Value) (n c e : Int)
    (hp : tmps.getD p undef = .pointer (some ⟨z, 0, none⟩)) (hq : tmps.getD q undef = .pointer (some ⟨z1, 0, none⟩)) (hr : tmps.getD r undef = .pointer (some ⟨z2, 0, none⟩)) (hu : tmps.getD u undef = .pointer (some ⟨z3, 0, none⟩))
    (h0 : w.heap[z]? = some (.cells #[x, y, s] 28 (0, 0))) (h1 : w.heap[z1]? = some (.cells #[.int .i64 n] 3 (0, 0))) (h2 : w.heap[z2]? = some (.cells #[.int .i64 c] 3 (0, 0))) (h3 : w.heap[z3]? = some (.cells #[.int .i64 e] 29 (0, 0))) :
    (results fn tmps).run Try.prog w = .ok (.tuple #[.agg #[x, y, s], .int .i64 n, .int .i64 c, .int .i64 e]) w := by
  have hp' : tmps[p]?.getD undef = .pointer (some ⟨z, 0, none⟩) := by simpa using hp
  have hq' : tmps[q]?.getD undef = .pointer (some ⟨z1, 0, none⟩) := by simpa using hq
  have hr' : tmps[r]?.getD undef = .pointer (some ⟨z2, 0, none⟩) := by simpa using hr
  have hu' : tmps[u]?.getD undef = .pointer (some ⟨z3, 0, none⟩) := by simpa using hu
  have l0 := run_loadVar_row (P := Try.prog) w z 28 28 #[x, y, s] (0, 0) _ h0 Try.underlying28 rfl (by kernel_rfl)
  have l1 := load_cell Try.underlying3 rfl w z1 (.int .i64 n) (by rw [cell_of_row w _ 0 _ _ _ h1]; rfl)
  have l2 := load_cell Try.underlying3 rfl w z2 (.int .i64 c) (by rw [cell_of_row w _ 0 _ _ _ h2]; rfl)
  have l3 := load_cell Try.underlying29 rfl w z3 (.int .i64 e) (by rw [cell_of_row w _ 0 _ _ _ h3]; rfl)
  simp [results, h, hp', hq', hr', hu', asAddr, l0, l1, l2, l3]
/-- the answers, behind the loop's mark taken off -/
theorem parse_fin {fn : Func} {p q r u : Tmp} (h : fn.results = #[.cell p 28, .cell q 3, .cell r 3, .cell u 29]) (tmps : Array Value) (w V : World) (D : Nat) (o' : Obj) (T : PRes) (vG vL : Value)
    (hp : tmps.getD p undef = .pointer (some ⟨w.heap.size, 0, none⟩)) (hq : tmps.getD q undef = .pointer (some ⟨w.heap.size + 1, 0, none⟩)) (hr : tmps.getD r undef = .pointer (some ⟨w.heap.size + 1 + 1, 0, none⟩)) (hu : tmps.getD u undef = .pointer (some ⟨w.heap.size + 1 + 1 + 1, 0, none⟩))
    (hD1 : w.heap.size + 4 ≤ D) (hD2 : D < w.heap.size + 9) (hD : ∃ o, V.heap[D]? = some o) (hb : Below w.heap.size w V)
    (h0 : V.heap[w.heap.size]? = some (.cells #[vG, .int .i64 T.1.secs, vL] 28 (0, 0))) (h1 : V.heap[w.heap.size + 1]? = some (.cells #[.int .i64 T.2.1] 3 (0, 0))) (h2 : V.heap[w.heap.size + 1 + 1]? = some (.cells #[.int .i64 T.2.2.1] 3 (0, 0))) (h3 : V.heap[w.heap.size + 1 + 1 + 1]? = some (.cells #[.int .i64 T.2.2.2] 29 (0, 0)))
    (hG : V.ownsRow (w.heap.size + 9) 56 2 vG T.1.gs.length (flatG T.1.gs)) (hL : V.ownsRow (w.heap.size + 9) 40 5 vL T.1.xs.length (flatA T.1.xs)) :
    ∃ v, (results fn tmps).run Try.prog (V.putObj D o') = .ok v (V.putObj D o') ∧ ∃ vG vL, Ending.returned v = .returned (.tuple #[.agg #[vG, .int .i64 T.1.secs, vL], .int .i64 T.2.1, .int .i64 T.2.2.1, .int .i64 T.2.2.2]) ∧
      (V.putObj D o').ownsRow w.heap.size 56 2 vG T.1.gs.length (flatG T.1.gs) ∧ (V.putObj D o').ownsRow w.heap.size 40 5 vL T.1.xs.length (flatA T.1.xs) ∧ Below w.heap.size w (V.putObj D o') := by
  obtain ⟨o, hD⟩ := hD
  have ho : ∀ k, k ≠ D → (V.putObj D o').heap[k]? = V.heap[k]? := fun k hk => World.putObj_heap_other hk
  refine ⟨_, results_parse h tmps _ _ _ _ _ vG (.int .i64 T.1.secs) vL T.2.1 T.2.2.1 T.2.2.2 hp hq hr hu ((ho _ (by omega)).trans h0) ((ho _ (by omega)).trans h1) ((ho _ (by omega)).trans h2) ((ho _ (by omega)).trans h3), vG, vL, rfl, ?_, ?_, hb.trans (below_put _ D _ _ (by omega) hD hb.size)⟩
  · exact ownsRow_base (ownsRow_off hG (fun k hk => ho k (by have := (hG.lt k hk).1; omega))) (by omega)
  · exact ownsRow_base (ownsRow_off hL (fun k hk => ho k (by have := (hL.lt k hk).1; omega))) (by omega)

set_option maxRecDepth 20000 in
set_option maxHeartbeats 4000000 in
theorem Parse_at (t : ByteArray) (ht : t.size < 4611686018427387900) (w : World) :
    Calls Try.prog 9 #[.string t] w fun e W' => ∃ vG vL, e = .returned (.tuple #[.agg #[vG, .int .i64 (parseS t).1.secs, vL], .int .i64 (parseS t).2.1, .int .i64 (parseS t).2.2.1, .int .i64 (parseS t).2.2.2]) ∧
      W'.ownsRow w.heap.size 56 2 vG (parseS t).1.gs.length (flatG (parseS t).1.gs) ∧ W'.ownsRow w.heap.size 40 5 vL (parseS t).1.xs.length (flatA (parseS t).1.xs) ∧ Below w.heap.size w W' := by
  refine (callsIn_wide (n := 3)).1 ?_
  refine callsIn_of_wp_marks Try.func9 rfl trivial ?_ rfl
  simp only [Try.ntmps9, List.size_toArray, List.length_cons, List.length_nil, Nat.reduceAdd, Nat.reduceSub, Array.replicate_succ, Array.replicate_zero, List.push_toArray, List.append_toArray, List.nil_append, List.cons_append]
  refine wpIn_wide.2 ?_
  by_cases hsz : 8192 < t.size
  · have hpT : parseS t = (noSc, 0, 0, 10) := by rw [parseS, if_pos hsz]
    rw [hpT]
    go_wp2_with fail
    have hh := heap_at w [.cells #[.slice none 0 0, .int .i64 0, .slice none 0 0] 28, .cells #[.int .i64 0] 3, .cells #[.int .i64 0] 3, .cells #[.int .i64 10] 29]
    refine ⟨_, results_parse rfl _ _ w.heap.size (w.heap.size + 1) (w.heap.size + 1 + 1) (w.heap.size + 1 + 1 + 1) (.slice none 0 0) (.int .i64 0) (.slice none 0 0) 0 0 10 rfl rfl rfl rfl (hh 0) (hh 1) (hh 2) (hh 3), .slice none 0 0, .slice none 0 0, rfl, World.ownsRow_nil _ _ _ _, World.ownsRow_nil _ _ _ _, by (repeat' (first | (with_reducible exact Below.refl _ _) | (with_reducible refine belowGrU ?_ _) | (with_reducible refine belowAlloc ?_ _) | (with_reducible refine Below.setCell ?_ ?_ _) | (with_reducible refine Below.drew ?_) | (simp [go_sem]; done) | (simp [go_sem]; omega)))⟩
  · go_wp2_with (go_at_call 20; refine (Lines_at _ _).mono ?_; rintro e w' ⟨rfl, rfl⟩)
    all_goals (try (exfalso; omega))
    have hP0 : PI w ((([] : List (List UInt8)).length : Nat) : Int) noSc (((((((w.alloc (.cells #[.slice none 0 0, .int .i64 0, .slice none 0 0] 28)).alloc (.cells #[.int .i64 0] 3)).alloc (.cells #[.int .i64 0] 3)).alloc (.cells #[.int .i64 0] 29)).alloc (.cells #[.slice none 0 0, .int .i64 0, .slice none 0 0] 28)).alloc (.cells #[.int .i64 0] 3)).alloc (.cells #[.string t] 9)) := by
      have hh := heap_at w [.cells #[.slice none 0 0, .int .i64 0, .slice none 0 0] 28, .cells #[.int .i64 0] 3, .cells #[.int .i64 0] 3, .cells #[.int .i64 0] 29, .cells #[.slice none 0 0, .int .i64 0, .slice none 0 0] 28, .cells #[.int .i64 0] 3, .cells #[.string t] 9]
      exact ⟨by (repeat' (first | (with_reducible exact Below.refl _ _) | (with_reducible refine belowGrU ?_ _) | (with_reducible refine belowAlloc ?_ _) | (with_reducible refine Below.setCell ?_ ?_ _) | (with_reducible refine Below.drew ?_) | (simp [go_sem]; done) | (simp [go_sem]; omega))), hh 0, hh 1, hh 2, hh 3, ⟨.slice none 0 0, .slice none 0 0, hh 4, World.ownsRow_nil _ _ _ _, World.ownsRow_nil _ _ _ _⟩, hh 5⟩
    have hb0 : (((((((w.alloc (.cells #[.slice none 0 0, .int .i64 0, .slice none 0 0] 28)).alloc (.cells #[.int .i64 0] 3)).alloc (.cells #[.int .i64 0] 3)).alloc (.cells #[.int .i64 0] 29)).alloc (.cells #[.slice none 0 0, .int .i64 0, .slice none 0 0] 28)).alloc (.cells #[.int .i64 0] 3)).alloc (.cells #[.string t] 9)).heap[w.heap.size + 1 + 1 + 1 + 1 + 1 + 1]? = some (.cells #[.string t] 9 (0, 0)) := by
      exact heap_at w [.cells #[.slice none 0 0, .int .i64 0, .slice none 0 0] 28, .cells #[.int .i64 0] 3, .cells #[.int .i64 0] 3, .cells #[.int .i64 0] 29, .cells #[.slice none 0 0, .int .i64 0, .slice none 0 0] 28, .cells #[.int .i64 0] 3, .cells #[.string t] 9] 6
    have hz0 : (((((((w.alloc (.cells #[.slice none 0 0, .int .i64 0, .slice none 0 0] 28)).alloc (.cells #[.int .i64 0] 3)).alloc (.cells #[.int .i64 0] 3)).alloc (.cells #[.int .i64 0] 29)).alloc (.cells #[.slice none 0 0, .int .i64 0, .slice none 0 0] 28)).alloc (.cells #[.int .i64 0] 3)).alloc (.cells #[.string t] 9)).heap.size = w.heap.size + 7 := by simp
    generalize (((((((w.alloc (.cells #[.slice none 0 0, .int .i64 0, .slice none 0 0] 28)).alloc (.cells #[.int .i64 0] 3)).alloc (.cells #[.int .i64 0] 3)).alloc (.cells #[.int .i64 0] 29)).alloc (.cells #[.slice none 0 0, .int .i64 0, .slice none 0 0] 28)).alloc (.cells #[.int .i64 0] 3)).alloc (.cells #[.string t] 9)) = W0 at hP0 hb0 hz0 ⊢
    obtain ⟨L, hL⟩ : ∃ L, t.data.toList = L := ⟨_, rfl⟩
    have hLl : L.length ≤ 8192 := by rw [← hL, size_list]; omega
    obtain ⟨T, hT⟩ : ∃ T, parseS t = T := ⟨_, rfl⟩
    have hT0 : parseL noSc 0 (linesS L) = T := by rw [← hT, parseS, if_neg hsz, hL]
    have HT := Lib.hid hT
    have hcap := Lines1_cap t ht (w.heap.size + 1 + 1 + 1 + 1 + 1 + 1)
    rw [hL] at hcap
    clear hT hL
    refine (wpIn_wide (n := 3)).1 ?_
    have hI : Abides (fun k => k = w.heap.size + 1 + 1 + 1 + 1 + 1 + 1 ∨ k = W0.heap.size ∨ k = W0.heap.size + 1) (fun (pre : List (List UInt8)) W => ∃ s : ScS, PI w ((pre.length : Nat) : Int) s W ∧ s.gs.length ≤ 100000 ∧ s.xs.length ≤ pre.length ∧ ∃ rest, pre ++ rest = linesS L ∧ parseL s ((pre.length : Nat) : Int) rest = T) := by
      rintro pre A B ⟨s, h1, h2⟩ ho
      exact ⟨s, h1.off ho (fun k hk => by omega), h2⟩
    have hIx : ∀ c : Code, Abides (fun k => k = w.heap.size + 1 + 1 + 1 + 1 + 1 + 1 ∨ k = W0.heap.size ∨ k = W0.heap.size + 1) (fun (_ : List (List UInt8)) W => c = .ret ∧ PX w T W) := fun c => by
      rintro pre A B ⟨h1, h2⟩ ho
      exact ⟨h1, h2.off ho (fun k hk => by omega)⟩
    apply wpIn_range_cap (w := W0) (gf := 37) (lb := #[.pointer (some ⟨w.heap.size + 1 + 1 + 1 + 1 + 1 + 1, 0, none⟩)]) rfl eg_lines1 hcap (by omega)
      (fun W ho => (ho.same _ (by omega) (by omega)).trans hb0) (fun _ => rfl) _ _ hI hIx ⟨noSc, hP0, by simp [noSc], by simp [noSc], linesS L, rfl, hT0⟩
    case hassign =>
      intro l m x W K hK
      gi_wp2
      exact hK
    case hbody =>
      rintro l m pre x W ⟨s, hP, hgl, hxl, rest, hpr, hTs⟩ hWs ⟨xs, rfl, hpx⟩
      obtain ⟨rest', rfl⟩ : ∃ rest', rest = x :: rest' := by
        obtain ⟨r2, h2⟩ := hpx
        rw [← hpr, List.append_assoc] at h2
        exact ⟨r2, (List.append_cancel_left h2).symm⟩
      have hmem : x ∈ linesS L := by rw [← hpr]; simp
      have hxL := linesS_mem _ _ _ hmem
      have hprl : pre.length < 8192 := by
        have h1 := congrArg List.length hpr
        have h2 := linesS_len L
        simp only [List.length_append, List.length_cons] at h1
        omega
      have hlen1 : (pre ++ [x]).length = pre.length + 1 := by simp
      have hpr1 : (pre ++ [x]) ++ rest' = linesS L := by rw [← hpr]; simp
      have hcN : W.cell? ⟨w.heap.size + 1 + 1 + 1 + 1 + 1, 0, none⟩ = some (.int .i64 ((pre.length : Nat) : Int)) := by rw [cell_of_row W _ 0 _ _ _ hP.hn]; rfl
      have hcF := frozen_of_row hP.hn 0
      have hP1 := hP.next ((pre.length : Int) + 1)
      haveI : Old (w.heap.size + 1 + 1 + 1 + 1 + 1) W := ⟨by omega⟩
      have cC : Pure Try.prog 21 #[.string (ofL x), .string ⟨#[10]⟩] (.tuple #[.string (textOf x), .bool (endedOf x)]) := pure_of_same fun W => by
        have h := Try.strings_CutSuffix (ofL x) ⟨#[10]⟩ W (by rw [ofL_size]; omega)
        rw [ofL_list] at h
        exact h
      have cN := isNote_any (textOf x)
      have htl := trim_len x
      obtain ⟨N, hN⟩ : ∃ N, pre.length = N := ⟨_, rfl⟩
      rw [hN] at hP hTs hcN hP1 hprl hlen1 hxl
      rw [parseL] at hTs
      cases hnt : noteS (textOf x) with
      | true =>
        rw [hnt] at cN
        rw [if_pos hnt] at hTs
        have HFIN : Hid (PI w (((pre ++ [x]).length : Nat) : Int) s (W.setCell ⟨w.heap.size + 1 + 1 + 1 + 1 + 1, 0, none⟩ (.int .i64 ((N : Int) + 1))) ∧ s.gs.length ≤ 100000 ∧ s.xs.length ≤ (pre ++ [x]).length ∧ ∃ rest, (pre ++ [x]) ++ rest = linesS L ∧ parseL s (((pre ++ [x]).length : Nat) : Int) rest = T) := by
          rw [hlen1]
          exact ⟨hP1, hgl, by omega, rest', hpr1, hTs⟩
        clear hTs hP hP1 hpr hpr1 hI hIx hcap hnt
        gi_wp2_with (first
          | (refine ⟨trivial, fun h => (by simp [Fence.wide] at h), ?_⟩; gi_at_call 21; refine (CallsIn.inRound l (callsIn_wide.2 (cC.at _))).mono ?_; rintro e w' ⟨rfl, g1, rfl⟩)
          | (refine ⟨trivial, fun h => (by simp [Fence.wide] at h), ?_⟩; refine (CallsIn.inRound l (callsIn_wide.2 (cC.at _))).mono ?_; rintro e w' ⟨rfl, g1, rfl⟩)
          | (refine ⟨trivial, fun h => (by simp [Fence.wide] at h), ?_⟩; refine (CallsIn.inRound l (callsIn_wide.2 (cN.at _))).mono ?_; rintro e w' ⟨rfl, g2, rfl⟩))
        refine ⟨⟨by rw [gr_size]; simp, fun k hk => ?_⟩, s, HFIN.out.1.grown (below_gr _ _), HFIN.out.2⟩
        rw [gr_heap _ _ (by simp; omega), Below.heap_setCell _ _ _ _ (by show k ≠ w.heap.size + 1 + 1 + 1 + 1 + 1; omega)]
      | false =>
        rw [if_neg (by rw [hnt]; simp)] at hTs
        rw [hnt] at cN
        obtain ⟨p0, pe, hps, hp0, hpe⟩ := parts_form (textOf x)
        have hml := midP_len (textOf x)
        have cP := fun (W : World) => parts_at (textOf x) (by omega) W
        have hpsl : (partsS (textOf x)).length = (midP (textOf x)).length + 2 := by rw [hps]; simp
        rw [hps] at cP
        simp only [List.length_cons, List.length_append, List.length_nil] at cP
        rw [← hp0, ← hpe] at hTs
        have HT1 := Lib.hid hTs
        have HP1 := Lib.hid hP1
        have HPR := Lib.hid hpr1
        clear hTs hP hP1 hpr hpr1 hI hIx hcap hnt hps hp0 hpe hpsl
        gi_wp2_with (first
          | (refine ⟨trivial, fun h => (by simp [Fence.wide] at h), ?_⟩; refine (CallsIn.inRound l (callsIn_wide.2 (cC.at _))).mono ?_; rintro e w' ⟨rfl, g1, rfl⟩)
          | (refine ⟨trivial, fun h => (by simp [Fence.wide] at h), ?_⟩; refine (CallsIn.inRound l (callsIn_wide.2 (cN.at _))).mono ?_; rintro e w' ⟨rfl, g2, rfl⟩)
          | (refine ⟨trivial, fun h => (by simp [Fence.wide] at h), ?_⟩; refine (CallsIn.inRound l (callsIn_wide.2 (cP _))).mono ?_; rintro e W4 ⟨gp, cap, rfl, hown, hbel⟩))
        have hg1 := (Array.getElem?_eq_some_iff.1 HP1.out.hn).1
        have hP4 : PI w ((N : Int) + 1) s W4 := (HP1.out.grown (below_gr _ _)).grown hbel
        have hW4 : w.heap.size + 9 ≤ W4.heap.size := by have := hbel.size; rw [gr_size] at this; simp at this; omega
        have cL := line_at W4 (w.heap.size + 9) (w.heap.size + 1 + 1 + 1 + 1) s hP4.sm hW4 _ gp cap p0 (midP (textOf x)) pe hown (by omega) (by omega) (by omega)
        have hll := lineS_len s p0.1 (midP (textOf x)) pe.2 100000 hgl (by omega)
        obtain ⟨⟨s', col, er⟩, hr⟩ : ∃ r, lineS s p0.1 (midP (textOf x)) pe.2 = r := ⟨_, rfl⟩
        rw [hr] at cL hll
        have hTs := HT1.out
        rw [hr] at hTs
        simp only at cL hll hTs
        clear hr HT1
        refine ⟨trivial, fun h => (by simp [Fence.wide] at h), ?_⟩
        refine (CallsIn.inRound l (callsIn_wide.2 cL)).mono ?_
        rintro e W5 ⟨rfl, hsm, hoff⟩
        have hP5 := hP4.line hsm hoff
        have HP5 := Lib.hid hP5
        have cN5 : W5.cell? ⟨w.heap.size + 1 + 1 + 1 + 1 + 1, 0, none⟩ = some (.int .i64 ((N : Int) + 1)) := by rw [cell_of_row W5 _ 0 _ _ _ hP5.hn]; rfl
        have r0 : W5.cell? ⟨w.heap.size, 0, none⟩ = some (.slice none 0 0) := by rw [cell_of_row W5 _ 0 _ _ _ hP5.h1]; rfl
        have r1 : W5.cell? ⟨w.heap.size, 1, none⟩ = some (.int .i64 0) := by rw [cell_of_row W5 _ 1 _ _ _ hP5.h1]; rfl
        have r2 : W5.cell? ⟨w.heap.size, 2, none⟩ = some (.slice none 0 0) := by rw [cell_of_row W5 _ 2 _ _ _ hP5.h1]; rfl
        have r3 : W5.cell? ⟨w.heap.size + 1, 0, none⟩ = some (.int .i64 0) := by rw [cell_of_row W5 _ 0 _ _ _ hP5.h2]; rfl
        have r4 : W5.cell? ⟨w.heap.size + 1 + 1, 0, none⟩ = some (.int .i64 0) := by rw [cell_of_row W5 _ 0 _ _ _ hP5.h3]; rfl
        have r5 : W5.cell? ⟨w.heap.size + 1 + 1 + 1, 0, none⟩ = some (.int .i64 0) := by rw [cell_of_row W5 _ 0 _ _ _ hP5.h4]; rfl
        have f0 := frozen_of_row hP5.h1 0
        have f1 := frozen_of_row hP5.h1 1
        have f2 := frozen_of_row hP5.h1 2
        have f3 := frozen_of_row hP5.h2 0
        have f4 := frozen_of_row hP5.h3 0
        have f5 := frozen_of_row hP5.h4 0
        have fn5 := frozen_of_row hP5.hn 0
        have hs5 : w.heap.size + 9 ≤ W5.heap.size := by have := hoff.size; omega
        haveI : Old (w.heap.size + 1 + 1 + 1 + 1 + 1) W5 := ⟨by omega⟩
        haveI : Old (w.heap.size + 1 + 1 + 1) W5 := ⟨by omega⟩
        haveI : Old (w.heap.size + 1 + 1) W5 := ⟨by omega⟩
        haveI : Old (w.heap.size + 1) W5 := ⟨by omega⟩
        haveI : Old (w.heap.size) W5 := ⟨by omega⟩
        have hz5 : W.heap.size ≤ W5.heap.size := by have h1 := hbel.size; rw [gr_size] at h1; simp at h1; have h2 := hoff.size; omega
        have HZ := Lib.hid hz5
        have HKK : Hid (∀ k, k = w.heap.size + 1 + 1 + 1 + 1 + 1 + 1 ∨ k = W0.heap.size ∨ k = W0.heap.size + 1 → W5.heap[k]? = W.heap[k]?) := by
          refine Lib.hid fun k hk => ?_
          have h1 := hbel.size
          rw [gr_size] at h1
          simp at h1
          refine (hoff.same k (fun e => ?_) (by omega)).trans ((hbel.block k (by rw [gr_size]; simp; omega)).trans ?_)
          · rcases e with e | e
            · omega
            · have := e.1; omega
          · rw [gr_heap _ _ (by simp; omega), Below.heap_setCell _ _ _ _ (by show k ≠ w.heap.size + 1 + 1 + 1 + 1 + 1; omega)]
        clear hP5 hz5
        by_cases her : er = 0
        · subst her
          cases hen : endedOf x with
          | true =>
            gi_wp2_with fail
            rw [if_neg (by simp), if_pos hen] at hTs
            refine ⟨⟨HZ.out, HKK.out⟩, s', ?_, hll.1, ?_, rest', HPR.out, ?_⟩
            · rw [hlen1]; exact HP5.out
            · rw [hlen1]; have := hll.2; omega
            · rw [hlen1]; exact hTs
          | false =>
            gi_wp2_with fail
            rw [if_neg (by simp), if_neg (by rw [hen]; simp)] at hTs
            have hown5 : OwnP W5 (gr (W.setCell ⟨w.heap.size + 1 + 1 + 1 + 1 + 1, 0, none⟩ (.int .i64 ((N : Int) + 1))) (g1.seq g2)).heap.size gp cap (p0 :: (midP (textOf x) ++ [pe])) := by
              refine hown.kept (hoff.same gp (fun e => ?_) hown.lt)
              rcases e with e | ⟨_, cur2, fr, h2⟩
              · have := hown.base
                rw [gr_size] at this
                simp at this
                omega
              · obtain ⟨cur, hg, _⟩ := hown.row
                rw [hg] at h2
                simp at h2
            have hgp : w.heap.size + 9 ≤ gp := by
              have := hown.base
              rw [gr_size] at this
              simp at this
              omega
            have c54 : W5.cell? ⟨gp, 2 * ((midP (textOf x)).length + 1) + 1, none⟩ = some (.int .i64 pe.2) := by
              have := hown5.cell1 ((midP (textOf x)).length + 1) (by simp)
              simpa using this
            have hgl5 := hown5.lt
            obtain ⟨M, hM⟩ : ∃ M, (midP (textOf x)).length = M := ⟨_, rfl⟩
            rw [hM] at c54 ⊢
            have hix : ∀ W : World, (Instr.indexAt 62 (.slice (some ⟨gp, 0, none⟩) (M + 1 + 1) cap) (.int .i64 ((M : Int) + 1))).run Try.prog W = .ok (.pointer (some ⟨gp, 2 * (M + 1), none⟩)) W := fun W => by
              have := run_part_addr W gp (M + 1 + 1) cap (M + 1) (by omega)
              exact this
            refine wpIn_region_rel (fun a0 listed a V => ∃ s0 s1 s2 s3 s4 s5 s6 s7 s8 : Value, a = (((((((((a0.put (some 46) s0).put (some 47) s1).put (some 48) s2).put (some 49) s3).put (some 50) s4).put (some 51) s5).put (some 52) s6).put (some 53) s7).put (some 54) s8) ∧ (flag listed 0 → s0 = .agg #[.slice none 0 0, .int .i64 0, .slice none 0 0]) ∧ (flag listed 1 → s1 = .int .i64 ((N : Int) + 1)) ∧ (flag listed 2 → s2 = .slice (some ⟨gp, 0, none⟩) (M + 1 + 1) cap) ∧ (flag listed 3 → s3 = .slice (some ⟨gp, 0, none⟩) (M + 1 + 1) cap) ∧ (flag listed 4 → s4 = .int .i64 ((M : Int) + 1 + 1)) ∧ (flag listed 5 → s5 = .int .i64 ((M : Int) + 1)) ∧ (flag listed 6 → s6 = .pointer (some ⟨gp, 2 * (M + 1), none⟩)) ∧ (flag listed 7 → s7 = .pointer (some ⟨gp, 2 * (M + 1) + 1, none⟩)) ∧ (flag listed 8 → s8 = .int .i64 pe.2) ∧ BX w W5 V ((N : Int) + 1) pe.2 2 (flag listed 10) (flag listed 11) (flag listed 12)) (by kernel_rfl) (by kernel_rfl) ?_ ⟨?_, ?_, ?_, ?_, ?_, ?_, ?_, ?_, ?_, ?_, ?_, ?_, ?_, trivial⟩ ?_
            · intro listed h
              refine start9 _ 46 47 48 49 50 51 52 53 54 (fun s0 s1 s2 s3 s4 s5 s6 s7 s8 => ⟨?_, ?_, ?_, ?_, ?_, ?_, ?_, ?_, ?_, (BX.start HP5.out _ _ _).mono ?_ ?_ ?_⟩) <;> (intro hc; unfold flag at hc; rw [h] at hc; cases hc)
            · rintro listed a V ⟨s0, s1, s2, s3, s4, s5, s6, s7, s8, rfl, e0, e1, e2, e3, e4, e5, e6, e7, e8, hB⟩ hlt hd
              obtain ⟨c5', f0', f1', f2', f3', f4', f5', r0', r1', r2', ⟨m1, r3'⟩, ⟨m2, r4'⟩, ⟨m3, r5'⟩⟩ := hB.walk HP5.out
              gi_wp2_with fail
              refine ⟨rfl, _, _, _, _, _, _, _, _, _, rfl, ?_, ?_, ?_, ?_, ?_, ?_, ?_, ?_, ?_, ?_⟩
              · exact fun _ => rfl
              · exact fun hc => e1 ((flag_set hc).resolve_left (by decide))
              · exact fun hc => e2 ((flag_set hc).resolve_left (by decide))
              · exact fun hc => e3 ((flag_set hc).resolve_left (by decide))
              · exact fun hc => e4 ((flag_set hc).resolve_left (by decide))
              · exact fun hc => e5 ((flag_set hc).resolve_left (by decide))
              · exact fun hc => e6 ((flag_set hc).resolve_left (by decide))
              · exact fun hc => e7 ((flag_set hc).resolve_left (by decide))
              · exact fun hc => e8 ((flag_set hc).resolve_left (by decide))
              exact hB.mono (fun hc => (flag_set hc).resolve_left (by decide)) (fun hc => (flag_set hc).resolve_left (by decide)) (fun hc => (flag_set hc).resolve_left (by decide))
            · rintro listed a V ⟨s0, s1, s2, s3, s4, s5, s6, s7, s8, rfl, e0, e1, e2, e3, e4, e5, e6, e7, e8, hB⟩ hlt hd
              obtain ⟨c5', f0', f1', f2', f3', f4', f5', r0', r1', r2', ⟨m1, r3'⟩, ⟨m2, r4'⟩, ⟨m3, r5'⟩⟩ := hB.walk HP5.out
              gi_wp2_with fail
              refine ⟨rfl, _, _, _, _, _, _, _, _, _, rfl, ?_, ?_, ?_, ?_, ?_, ?_, ?_, ?_, ?_, ?_⟩
              · exact fun hc => e0 ((flag_set hc).resolve_left (by decide))
              · exact fun _ => rfl
              · exact fun hc => e2 ((flag_set hc).resolve_left (by decide))
              · exact fun hc => e3 ((flag_set hc).resolve_left (by decide))
              · exact fun hc => e4 ((flag_set hc).resolve_left (by decide))
              · exact fun hc => e5 ((flag_set hc).resolve_left (by decide))
              · exact fun hc => e6 ((flag_set hc).resolve_left (by decide))
              · exact fun hc => e7 ((flag_set hc).resolve_left (by decide))
              · exact fun hc => e8 ((flag_set hc).resolve_left (by decide))
              exact hB.mono (fun hc => (flag_set hc).resolve_left (by decide)) (fun hc => (flag_set hc).resolve_left (by decide)) (fun hc => (flag_set hc).resolve_left (by decide))
            · rintro listed a V ⟨s0, s1, s2, s3, s4, s5, s6, s7, s8, rfl, e0, e1, e2, e3, e4, e5, e6, e7, e8, hB⟩ hlt hd
              obtain ⟨c5', f0', f1', f2', f3', f4', f5', r0', r1', r2', ⟨m1, r3'⟩, ⟨m2, r4'⟩, ⟨m3, r5'⟩⟩ := hB.walk HP5.out
              gi_wp2_with fail
              refine ⟨rfl, _, _, _, _, _, _, _, _, _, rfl, ?_, ?_, ?_, ?_, ?_, ?_, ?_, ?_, ?_, ?_⟩
              · exact fun hc => e0 ((flag_set hc).resolve_left (by decide))
              · exact fun hc => e1 ((flag_set hc).resolve_left (by decide))
              · exact fun _ => rfl
              · exact fun hc => e3 ((flag_set hc).resolve_left (by decide))
              · exact fun hc => e4 ((flag_set hc).resolve_left (by decide))
              · exact fun hc => e5 ((flag_set hc).resolve_left (by decide))
              · exact fun hc => e6 ((flag_set hc).resolve_left (by decide))
              · exact fun hc => e7 ((flag_set hc).resolve_left (by decide))
              · exact fun hc => e8 ((flag_set hc).resolve_left (by decide))
              exact hB.mono (fun hc => (flag_set hc).resolve_left (by decide)) (fun hc => (flag_set hc).resolve_left (by decide)) (fun hc => (flag_set hc).resolve_left (by decide))
            · rintro listed a V ⟨s0, s1, s2, s3, s4, s5, s6, s7, s8, rfl, e0, e1, e2, e3, e4, e5, e6, e7, e8, hB⟩ hlt hd
              obtain ⟨c5', f0', f1', f2', f3', f4', f5', r0', r1', r2', ⟨m1, r3'⟩, ⟨m2, r4'⟩, ⟨m3, r5'⟩⟩ := hB.walk HP5.out
              gi_wp2_with fail
              refine ⟨rfl, _, _, _, _, _, _, _, _, _, rfl, ?_, ?_, ?_, ?_, ?_, ?_, ?_, ?_, ?_, ?_⟩
              · exact fun hc => e0 ((flag_set hc).resolve_left (by decide))
              · exact fun hc => e1 ((flag_set hc).resolve_left (by decide))
              · exact fun hc => e2 ((flag_set hc).resolve_left (by decide))
              · exact fun _ => rfl
              · exact fun hc => e4 ((flag_set hc).resolve_left (by decide))
              · exact fun hc => e5 ((flag_set hc).resolve_left (by decide))
              · exact fun hc => e6 ((flag_set hc).resolve_left (by decide))
              · exact fun hc => e7 ((flag_set hc).resolve_left (by decide))
              · exact fun hc => e8 ((flag_set hc).resolve_left (by decide))
              exact hB.mono (fun hc => (flag_set hc).resolve_left (by decide)) (fun hc => (flag_set hc).resolve_left (by decide)) (fun hc => (flag_set hc).resolve_left (by decide))
            · rintro listed a V ⟨s0, s1, s2, s3, s4, s5, s6, s7, s8, rfl, e0, e1, e2, e3, e4, e5, e6, e7, e8, hB⟩ hlt hd
              obtain ⟨c5', f0', f1', f2', f3', f4', f5', r0', r1', r2', ⟨m1, r3'⟩, ⟨m2, r4'⟩, ⟨m3, r5'⟩⟩ := hB.walk HP5.out
              obtain rfl := e3 (hd 3 (by decide))
              gi_wp2_with fail
              refine ⟨rfl, _, _, _, _, _, _, _, _, _, rfl, ?_, ?_, ?_, ?_, ?_, ?_, ?_, ?_, ?_, ?_⟩
              · exact fun hc => e0 ((flag_set hc).resolve_left (by decide))
              · exact fun hc => e1 ((flag_set hc).resolve_left (by decide))
              · exact fun hc => e2 ((flag_set hc).resolve_left (by decide))
              · exact fun _ => rfl
              · exact fun _ => rfl
              · exact fun hc => e5 ((flag_set hc).resolve_left (by decide))
              · exact fun hc => e6 ((flag_set hc).resolve_left (by decide))
              · exact fun hc => e7 ((flag_set hc).resolve_left (by decide))
              · exact fun hc => e8 ((flag_set hc).resolve_left (by decide))
              exact hB.mono (fun hc => (flag_set hc).resolve_left (by decide)) (fun hc => (flag_set hc).resolve_left (by decide)) (fun hc => (flag_set hc).resolve_left (by decide))
            · rintro listed a V ⟨s0, s1, s2, s3, s4, s5, s6, s7, s8, rfl, e0, e1, e2, e3, e4, e5, e6, e7, e8, hB⟩ hlt hd
              obtain ⟨c5', f0', f1', f2', f3', f4', f5', r0', r1', r2', ⟨m1, r3'⟩, ⟨m2, r4'⟩, ⟨m3, r5'⟩⟩ := hB.walk HP5.out
              obtain rfl := e4 (hd 4 (by decide))
              gi_wp2_with fail
              refine ⟨rfl, _, _, _, _, _, _, _, _, _, rfl, ?_, ?_, ?_, ?_, ?_, ?_, ?_, ?_, ?_, ?_⟩
              · exact fun hc => e0 ((flag_set hc).resolve_left (by decide))
              · exact fun hc => e1 ((flag_set hc).resolve_left (by decide))
              · exact fun hc => e2 ((flag_set hc).resolve_left (by decide))
              · exact fun hc => e3 ((flag_set hc).resolve_left (by decide))
              · exact fun _ => rfl
              · exact fun _ => rfl
              · exact fun hc => e6 ((flag_set hc).resolve_left (by decide))
              · exact fun hc => e7 ((flag_set hc).resolve_left (by decide))
              · exact fun hc => e8 ((flag_set hc).resolve_left (by decide))
              exact hB.mono (fun hc => (flag_set hc).resolve_left (by decide)) (fun hc => (flag_set hc).resolve_left (by decide)) (fun hc => (flag_set hc).resolve_left (by decide))
            · rintro listed a V ⟨s0, s1, s2, s3, s4, s5, s6, s7, s8, rfl, e0, e1, e2, e3, e4, e5, e6, e7, e8, hB⟩ hlt hd
              obtain ⟨c5', f0', f1', f2', f3', f4', f5', r0', r1', r2', ⟨m1, r3'⟩, ⟨m2, r4'⟩, ⟨m3, r5'⟩⟩ := hB.walk HP5.out
              obtain rfl := e2 (hd 2 (by decide))
              obtain rfl := e5 (hd 5 (by decide))
              gi_wp2_with fail
              refine ⟨rfl, _, _, _, _, _, _, _, _, _, rfl, ?_, ?_, ?_, ?_, ?_, ?_, ?_, ?_, ?_, ?_⟩
              · exact fun hc => e0 ((flag_set hc).resolve_left (by decide))
              · exact fun hc => e1 ((flag_set hc).resolve_left (by decide))
              · exact fun _ => rfl
              · exact fun hc => e3 ((flag_set hc).resolve_left (by decide))
              · exact fun hc => e4 ((flag_set hc).resolve_left (by decide))
              · exact fun _ => rfl
              · exact fun _ => rfl
              · exact fun hc => e7 ((flag_set hc).resolve_left (by decide))
              · exact fun hc => e8 ((flag_set hc).resolve_left (by decide))
              exact hB.mono (fun hc => (flag_set hc).resolve_left (by decide)) (fun hc => (flag_set hc).resolve_left (by decide)) (fun hc => (flag_set hc).resolve_left (by decide))
            · rintro listed a V ⟨s0, s1, s2, s3, s4, s5, s6, s7, s8, rfl, e0, e1, e2, e3, e4, e5, e6, e7, e8, hB⟩ hlt hd
              obtain ⟨c5', f0', f1', f2', f3', f4', f5', r0', r1', r2', ⟨m1, r3'⟩, ⟨m2, r4'⟩, ⟨m3, r5'⟩⟩ := hB.walk HP5.out
              obtain rfl := e6 (hd 6 (by decide))
              gi_wp2_with fail
              refine ⟨rfl, _, _, _, _, _, _, _, _, _, rfl, ?_, ?_, ?_, ?_, ?_, ?_, ?_, ?_, ?_, ?_⟩
              · exact fun hc => e0 ((flag_set hc).resolve_left (by decide))
              · exact fun hc => e1 ((flag_set hc).resolve_left (by decide))
              · exact fun hc => e2 ((flag_set hc).resolve_left (by decide))
              · exact fun hc => e3 ((flag_set hc).resolve_left (by decide))
              · exact fun hc => e4 ((flag_set hc).resolve_left (by decide))
              · exact fun hc => e5 ((flag_set hc).resolve_left (by decide))
              · exact fun _ => rfl
              · exact fun _ => rfl
              · exact fun hc => e8 ((flag_set hc).resolve_left (by decide))
              exact hB.mono (fun hc => (flag_set hc).resolve_left (by decide)) (fun hc => (flag_set hc).resolve_left (by decide)) (fun hc => (flag_set hc).resolve_left (by decide))
            · rintro listed a V ⟨s0, s1, s2, s3, s4, s5, s6, s7, s8, rfl, e0, e1, e2, e3, e4, e5, e6, e7, e8, hB⟩ hlt hd
              obtain ⟨c5', f0', f1', f2', f3', f4', f5', r0', r1', r2', ⟨m1, r3'⟩, ⟨m2, r4'⟩, ⟨m3, r5'⟩⟩ := hB.walk HP5.out
              obtain rfl := e7 (hd 7 (by decide))
              have c54' : V.cell? ⟨gp, 2 * (M + 1) + 1, none⟩ = some (.int .i64 pe.2) := (hB.off.cell (p := ⟨gp, 2 * (M + 1) + 1, none⟩) (by show ¬ (_ ≤ gp ∧ gp < _); omega) hgl5).trans c54
              gi_wp2_with fail
              refine ⟨rfl, _, _, _, _, _, _, _, _, _, rfl, ?_, ?_, ?_, ?_, ?_, ?_, ?_, ?_, ?_, ?_⟩
              · exact fun hc => e0 ((flag_set hc).resolve_left (by decide))
              · exact fun hc => e1 ((flag_set hc).resolve_left (by decide))
              · exact fun hc => e2 ((flag_set hc).resolve_left (by decide))
              · exact fun hc => e3 ((flag_set hc).resolve_left (by decide))
              · exact fun hc => e4 ((flag_set hc).resolve_left (by decide))
              · exact fun hc => e5 ((flag_set hc).resolve_left (by decide))
              · exact fun hc => e6 ((flag_set hc).resolve_left (by decide))
              · exact fun _ => rfl
              · exact fun _ => rfl
              exact hB.mono (fun hc => (flag_set hc).resolve_left (by decide)) (fun hc => (flag_set hc).resolve_left (by decide)) (fun hc => (flag_set hc).resolve_left (by decide))
            · rintro listed a V ⟨s0, s1, s2, s3, s4, s5, s6, s7, s8, rfl, e0, e1, e2, e3, e4, e5, e6, e7, e8, hB⟩ hlt hd
              obtain ⟨c5', f0', f1', f2', f3', f4', f5', r0', r1', r2', ⟨m1, r3'⟩, ⟨m2, r4'⟩, ⟨m3, r5'⟩⟩ := hB.walk HP5.out
              obtain rfl := e0 (hd 0 (by decide))
              gi_wp2_with fail
              refine ⟨rfl, _, _, _, _, _, _, _, _, _, rfl, ?_, ?_, ?_, ?_, ?_, ?_, ?_, ?_, ?_, ?_⟩
              · exact fun _ => rfl
              · exact fun hc => e1 ((flag_set hc).resolve_left (by decide))
              · exact fun hc => e2 ((flag_set hc).resolve_left (by decide))
              · exact fun hc => e3 ((flag_set hc).resolve_left (by decide))
              · exact fun hc => e4 ((flag_set hc).resolve_left (by decide))
              · exact fun hc => e5 ((flag_set hc).resolve_left (by decide))
              · exact fun hc => e6 ((flag_set hc).resolve_left (by decide))
              · exact fun hc => e7 ((flag_set hc).resolve_left (by decide))
              · exact fun hc => e8 ((flag_set hc).resolve_left (by decide))
              exact (hB.set0).mono (fun hc => (flag_set hc).resolve_left (by decide)) (fun hc => (flag_set hc).resolve_left (by decide)) (fun hc => (flag_set hc).resolve_left (by decide))
            · rintro listed a V ⟨s0, s1, s2, s3, s4, s5, s6, s7, s8, rfl, e0, e1, e2, e3, e4, e5, e6, e7, e8, hB⟩ hlt hd
              obtain ⟨c5', f0', f1', f2', f3', f4', f5', r0', r1', r2', ⟨m1, r3'⟩, ⟨m2, r4'⟩, ⟨m3, r5'⟩⟩ := hB.walk HP5.out
              obtain rfl := e1 (hd 1 (by decide))
              gi_wp2_with fail
              refine ⟨rfl, _, _, _, _, _, _, _, _, _, rfl, ?_, ?_, ?_, ?_, ?_, ?_, ?_, ?_, ?_, ?_⟩
              · exact fun hc => e0 ((flag_set hc).resolve_left (by decide))
              · exact fun _ => rfl
              · exact fun hc => e2 ((flag_set hc).resolve_left (by decide))
              · exact fun hc => e3 ((flag_set hc).resolve_left (by decide))
              · exact fun hc => e4 ((flag_set hc).resolve_left (by decide))
              · exact fun hc => e5 ((flag_set hc).resolve_left (by decide))
              · exact fun hc => e6 ((flag_set hc).resolve_left (by decide))
              · exact fun hc => e7 ((flag_set hc).resolve_left (by decide))
              · exact fun hc => e8 ((flag_set hc).resolve_left (by decide))
              exact (hB.set1).mono (fun _ => trivial) (fun hc => (flag_set hc).resolve_left (by decide)) (fun hc => (flag_set hc).resolve_left (by decide))
            · rintro listed a V ⟨s0, s1, s2, s3, s4, s5, s6, s7, s8, rfl, e0, e1, e2, e3, e4, e5, e6, e7, e8, hB⟩ hlt hd
              obtain ⟨c5', f0', f1', f2', f3', f4', f5', r0', r1', r2', ⟨m1, r3'⟩, ⟨m2, r4'⟩, ⟨m3, r5'⟩⟩ := hB.walk HP5.out
              obtain rfl := e8 (hd 8 (by decide))
              gi_wp2_with fail
              refine ⟨rfl, _, _, _, _, _, _, _, _, _, rfl, ?_, ?_, ?_, ?_, ?_, ?_, ?_, ?_, ?_, ?_⟩
              · exact fun hc => e0 ((flag_set hc).resolve_left (by decide))
              · exact fun hc => e1 ((flag_set hc).resolve_left (by decide))
              · exact fun hc => e2 ((flag_set hc).resolve_left (by decide))
              · exact fun hc => e3 ((flag_set hc).resolve_left (by decide))
              · exact fun hc => e4 ((flag_set hc).resolve_left (by decide))
              · exact fun hc => e5 ((flag_set hc).resolve_left (by decide))
              · exact fun hc => e6 ((flag_set hc).resolve_left (by decide))
              · exact fun hc => e7 ((flag_set hc).resolve_left (by decide))
              · exact fun _ => rfl
              exact (hB.set2).mono (fun hc => (flag_set hc).resolve_left (by decide)) (fun _ => trivial) (fun hc => (flag_set hc).resolve_left (by decide))
            · rintro listed a V ⟨s0, s1, s2, s3, s4, s5, s6, s7, s8, rfl, e0, e1, e2, e3, e4, e5, e6, e7, e8, hB⟩ hlt hd
              obtain ⟨c5', f0', f1', f2', f3', f4', f5', r0', r1', r2', ⟨m1, r3'⟩, ⟨m2, r4'⟩, ⟨m3, r5'⟩⟩ := hB.walk HP5.out
              gi_wp2_with fail
              refine ⟨rfl, _, _, _, _, _, _, _, _, _, rfl, ?_, ?_, ?_, ?_, ?_, ?_, ?_, ?_, ?_, ?_⟩
              · exact fun hc => e0 ((flag_set hc).resolve_left (by decide))
              · exact fun hc => e1 ((flag_set hc).resolve_left (by decide))
              · exact fun hc => e2 ((flag_set hc).resolve_left (by decide))
              · exact fun hc => e3 ((flag_set hc).resolve_left (by decide))
              · exact fun hc => e4 ((flag_set hc).resolve_left (by decide))
              · exact fun hc => e5 ((flag_set hc).resolve_left (by decide))
              · exact fun hc => e6 ((flag_set hc).resolve_left (by decide))
              · exact fun hc => e7 ((flag_set hc).resolve_left (by decide))
              · exact fun hc => e8 ((flag_set hc).resolve_left (by decide))
              exact (hB.set3).mono (fun hc => (flag_set hc).resolve_left (by decide)) (fun hc => (flag_set hc).resolve_left (by decide)) (fun _ => trivial)
            · rintro listed a V ⟨s0, s1, s2, s3, s4, s5, s6, s7, s8, rfl, e0, e1, e2, e3, e4, e5, e6, e7, e8, hB⟩ hall
              have hZ := hB.off.size
              have hV : ∀ k, k = w.heap.size + 1 + 1 + 1 + 1 + 1 + 1 ∨ k = W0.heap.size ∨ k = W0.heap.size + 1 → V.heap[k]? = W5.heap[k]? := fun k hk => hB.off.same k (by omega) (by omega)
              have hPX := hB.px HP5.out (hall 10 (by decide)) (hall 11 (by decide)) (hall 12 (by decide))
              rw [hTs] at hPX
              have HPX := Lib.hid hPX
              clear hPX hB
              gi_wp2_with fail
              exact ⟨⟨by have := HZ.out; have := hZ; omega, fun k hk => (hV k hk).trans (HKK.out k hk)⟩, rfl, HPX.out⟩
        · have her1 : (er == 0) = false := by simpa using her
          gi_wp2_with fail
          all_goals (try (exfalso; simp_all; done))
          refine wpIn_region_rel (fun a0 listed a V => ∃ s0 s1 s2 s3 : Value, a = (((a0.put (some 40) s0).put (some 41) s1).put (some 42) s2).put (some 43) s3 ∧
            (flag listed 0 → s0 = .agg #[.slice none 0 0, .int .i64 0, .slice none 0 0]) ∧ (flag listed 1 → s1 = .int .i64 ((N : Int) + 1)) ∧ (flag listed 2 → s2 = .int .i64 col) ∧ (flag listed 3 → s3 = .int .i64 er) ∧
            BX w W5 V ((N : Int) + 1) col er (flag listed 5) (flag listed 6) (flag listed 7)) (by kernel_rfl) (by kernel_rfl) ?_ ⟨?_, ?_, ?_, ?_, ?_, ?_, ?_, ?_, trivial⟩ ?_
          · intro listed h
            refine ⟨undef, undef, undef, undef, rfl, ?_, ?_, ?_, ?_, (BX.start HP5.out _ _ _).mono ?_ ?_ ?_⟩ <;> (intro hc; unfold flag at hc; rw [h] at hc; cases hc)
          · rintro listed a V ⟨s0, s1, s2, s3, rfl, e0, e1, e2, e3, hB⟩ hlt hd
            obtain ⟨c5', f0', f1', f2', f3', f4', f5', r0', r1', r2', ⟨m1, r3'⟩, ⟨m2, r4'⟩, ⟨m3, r5'⟩⟩ := hB.walk HP5.out
            gi_wp2_with fail
            refine ⟨rfl, _, _, _, _, rfl, ?_, ?_, ?_, ?_, ?_⟩
            · exact fun _ => rfl
            · exact fun hc => e1 ((flag_set hc).resolve_left (by decide))
            · exact fun hc => e2 ((flag_set hc).resolve_left (by decide))
            · exact fun hc => e3 ((flag_set hc).resolve_left (by decide))
            exact hB.mono (fun hc => (flag_set hc).resolve_left (by decide)) (fun hc => (flag_set hc).resolve_left (by decide)) (fun hc => (flag_set hc).resolve_left (by decide))
          · rintro listed a V ⟨s0, s1, s2, s3, rfl, e0, e1, e2, e3, hB⟩ hlt hd
            obtain ⟨c5', f0', f1', f2', f3', f4', f5', r0', r1', r2', ⟨m1, r3'⟩, ⟨m2, r4'⟩, ⟨m3, r5'⟩⟩ := hB.walk HP5.out
            gi_wp2_with fail
            refine ⟨rfl, _, _, _, _, rfl, ?_, ?_, ?_, ?_, ?_⟩
            · exact fun hc => e0 ((flag_set hc).resolve_left (by decide))
            · exact fun _ => rfl
            · exact fun hc => e2 ((flag_set hc).resolve_left (by decide))
            · exact fun hc => e3 ((flag_set hc).resolve_left (by decide))
            exact hB.mono (fun hc => (flag_set hc).resolve_left (by decide)) (fun hc => (flag_set hc).resolve_left (by decide)) (fun hc => (flag_set hc).resolve_left (by decide))
          · rintro listed a V ⟨s0, s1, s2, s3, rfl, e0, e1, e2, e3, hB⟩ hlt hd
            obtain ⟨c5', f0', f1', f2', f3', f4', f5', r0', r1', r2', ⟨m1, r3'⟩, ⟨m2, r4'⟩, ⟨m3, r5'⟩⟩ := hB.walk HP5.out
            gi_wp2_with fail
            refine ⟨rfl, _, _, _, _, rfl, ?_, ?_, ?_, ?_, ?_⟩
            · exact fun hc => e0 ((flag_set hc).resolve_left (by decide))
            · exact fun hc => e1 ((flag_set hc).resolve_left (by decide))
            · exact fun _ => rfl
            · exact fun hc => e3 ((flag_set hc).resolve_left (by decide))
            exact hB.mono (fun hc => (flag_set hc).resolve_left (by decide)) (fun hc => (flag_set hc).resolve_left (by decide)) (fun hc => (flag_set hc).resolve_left (by decide))
          · rintro listed a V ⟨s0, s1, s2, s3, rfl, e0, e1, e2, e3, hB⟩ hlt hd
            obtain ⟨c5', f0', f1', f2', f3', f4', f5', r0', r1', r2', ⟨m1, r3'⟩, ⟨m2, r4'⟩, ⟨m3, r5'⟩⟩ := hB.walk HP5.out
            gi_wp2_with fail
            refine ⟨rfl, _, _, _, _, rfl, ?_, ?_, ?_, ?_, ?_⟩
            · exact fun hc => e0 ((flag_set hc).resolve_left (by decide))
            · exact fun hc => e1 ((flag_set hc).resolve_left (by decide))
            · exact fun hc => e2 ((flag_set hc).resolve_left (by decide))
            · exact fun _ => rfl
            exact hB.mono (fun hc => (flag_set hc).resolve_left (by decide)) (fun hc => (flag_set hc).resolve_left (by decide)) (fun hc => (flag_set hc).resolve_left (by decide))
          · rintro listed a V ⟨s0, s1, s2, s3, rfl, e0, e1, e2, e3, hB⟩ hlt hd
            obtain ⟨c5', f0', f1', f2', f3', f4', f5', r0', r1', r2', ⟨m1, r3'⟩, ⟨m2, r4'⟩, ⟨m3, r5'⟩⟩ := hB.walk HP5.out
            obtain rfl := e0 (hd 0 (by decide))
            gi_wp2_with fail
            refine ⟨rfl, _, _, _, _, rfl, ?_, ?_, ?_, ?_, ?_⟩
            · exact fun _ => rfl
            · exact fun hc => e1 ((flag_set hc).resolve_left (by decide))
            · exact fun hc => e2 ((flag_set hc).resolve_left (by decide))
            · exact fun hc => e3 ((flag_set hc).resolve_left (by decide))
            exact (hB.set0).mono (fun hc => (flag_set hc).resolve_left (by decide)) (fun hc => (flag_set hc).resolve_left (by decide)) (fun hc => (flag_set hc).resolve_left (by decide))
          · rintro listed a V ⟨s0, s1, s2, s3, rfl, e0, e1, e2, e3, hB⟩ hlt hd
            obtain ⟨c5', f0', f1', f2', f3', f4', f5', r0', r1', r2', ⟨m1, r3'⟩, ⟨m2, r4'⟩, ⟨m3, r5'⟩⟩ := hB.walk HP5.out
            obtain rfl := e1 (hd 1 (by decide))
            gi_wp2_with fail
            refine ⟨rfl, _, _, _, _, rfl, ?_, ?_, ?_, ?_, ?_⟩
            · exact fun hc => e0 ((flag_set hc).resolve_left (by decide))
            · exact fun _ => rfl
            · exact fun hc => e2 ((flag_set hc).resolve_left (by decide))
            · exact fun hc => e3 ((flag_set hc).resolve_left (by decide))
            exact (hB.set1).mono (fun _ => trivial) (fun hc => (flag_set hc).resolve_left (by decide)) (fun hc => (flag_set hc).resolve_left (by decide))
          · rintro listed a V ⟨s0, s1, s2, s3, rfl, e0, e1, e2, e3, hB⟩ hlt hd
            obtain ⟨c5', f0', f1', f2', f3', f4', f5', r0', r1', r2', ⟨m1, r3'⟩, ⟨m2, r4'⟩, ⟨m3, r5'⟩⟩ := hB.walk HP5.out
            obtain rfl := e2 (hd 2 (by decide))
            gi_wp2_with fail
            refine ⟨rfl, _, _, _, _, rfl, ?_, ?_, ?_, ?_, ?_⟩
            · exact fun hc => e0 ((flag_set hc).resolve_left (by decide))
            · exact fun hc => e1 ((flag_set hc).resolve_left (by decide))
            · exact fun _ => rfl
            · exact fun hc => e3 ((flag_set hc).resolve_left (by decide))
            exact (hB.set2).mono (fun hc => (flag_set hc).resolve_left (by decide)) (fun _ => trivial) (fun hc => (flag_set hc).resolve_left (by decide))
          · rintro listed a V ⟨s0, s1, s2, s3, rfl, e0, e1, e2, e3, hB⟩ hlt hd
            obtain ⟨c5', f0', f1', f2', f3', f4', f5', r0', r1', r2', ⟨m1, r3'⟩, ⟨m2, r4'⟩, ⟨m3, r5'⟩⟩ := hB.walk HP5.out
            obtain rfl := e3 (hd 3 (by decide))
            gi_wp2_with fail
            refine ⟨rfl, _, _, _, _, rfl, ?_, ?_, ?_, ?_, ?_⟩
            · exact fun hc => e0 ((flag_set hc).resolve_left (by decide))
            · exact fun hc => e1 ((flag_set hc).resolve_left (by decide))
            · exact fun hc => e2 ((flag_set hc).resolve_left (by decide))
            · exact fun _ => rfl
            exact (hB.set3).mono (fun hc => (flag_set hc).resolve_left (by decide)) (fun hc => (flag_set hc).resolve_left (by decide)) (fun _ => trivial)
          · rintro listed a V ⟨s0, s1, s2, s3, rfl, e0, e1, e2, e3, hB⟩ hall
            have hZ := hB.off.size
            have hV : ∀ k, k = w.heap.size + 1 + 1 + 1 + 1 + 1 + 1 ∨ k = W0.heap.size ∨ k = W0.heap.size + 1 → V.heap[k]? = W5.heap[k]? := fun k hk => hB.off.same k (by omega) (by omega)
            have hPX := hB.px HP5.out (hall 5 (by decide)) (hall 6 (by decide)) (hall 7 (by decide))
            rw [if_pos her] at hTs
            rw [hTs] at hPX
            have HPX := Lib.hid hPX
            clear hPX hB
            gi_wp2_with fail
            exact ⟨⟨by have := HZ.out; have := hZ; omega, fun k hk => (hV k hk).trans (HKK.out k hk)⟩, rfl, HPX.out⟩
    case hdone =>
      rintro xs W rfl ⟨⟨gs, secs, sx⟩, hP, hgl, hxl, rest, hpr, hTs⟩ hK
      obtain rfl : rest = [] := by simpa using hpr
      obtain ⟨vG, vL, hb, hG, hL⟩ := hP.sm.ex
      obtain ⟨adG, capG, eG⟩ := ownsRow_len hG
      obtain ⟨adL, capL, eL⟩ := ownsRow_len hL
      subst eG
      subst eL
      simp only at *
      rw [parseL, endS] at hTs
      have hNl : (linesS L).length ≤ 8192 := Nat.le_trans (linesS_len L) hLl
      obtain ⟨N, hN⟩ : ∃ N, (linesS L).length = N := ⟨_, rfl⟩
      rw [hN] at hP hTs hNl hxl
      have hB0 := BX.start hP ((N : Int) + 1) 1 2
      obtain ⟨cN, f0, f1, f2, f3, f4, f5, r0, r1, r2, r3, r4, r5⟩ := hB0.walk hP
      have cN : W.cell? ⟨w.heap.size + 1 + 1 + 1 + 1 + 1, 0, none⟩ = some (.int .i64 (N : Int)) := cN
      have f0 : W.frozen? ⟨w.heap.size, 0, none⟩ = false := f0
      have f1 : W.frozen? ⟨w.heap.size, 1, none⟩ = false := f1
      have f2 : W.frozen? ⟨w.heap.size, 2, none⟩ = false := f2
      have f3 : W.frozen? ⟨w.heap.size + 1, 0, none⟩ = false := f3
      have f4 : W.frozen? ⟨w.heap.size + 1 + 1, 0, none⟩ = false := f4
      have f5 : W.frozen? ⟨w.heap.size + 1 + 1 + 1, 0, none⟩ = false := f5
      have r0 : W.cell? ⟨w.heap.size, 0, none⟩ = some (.slice none 0 0) := r0
      have r1 : W.cell? ⟨w.heap.size, 1, none⟩ = some (.int .i64 0) := r1
      have r2 : W.cell? ⟨w.heap.size, 2, none⟩ = some (.slice none 0 0) := r2
      have r3 : W.cell? ⟨w.heap.size + 1, 0, none⟩ = some (.int .i64 0) := by rw [cell_of_row W _ 0 _ _ _ hP.h2]; rfl
      have r4 : W.cell? ⟨w.heap.size + 1 + 1, 0, none⟩ = some (.int .i64 0) := by rw [cell_of_row W _ 0 _ _ _ hP.h3]; rfl
      have r5 : W.cell? ⟨w.heap.size + 1 + 1 + 1, 0, none⟩ = some (.int .i64 0) := by rw [cell_of_row W _ 0 _ _ _ hP.h4]; rfl
      have b0 : W.cell? ⟨w.heap.size + 1 + 1 + 1 + 1, 0, none⟩ = some (.slice adG gs.length capG) := by rw [cell_of_row W _ 0 _ _ _ hb]; rfl
      have b1 : W.cell? ⟨w.heap.size + 1 + 1 + 1 + 1, 1, none⟩ = some (.int .i64 secs) := by rw [cell_of_row W _ 1 _ _ _ hb]; rfl
      have b2 : W.cell? ⟨w.heap.size + 1 + 1 + 1 + 1, 2, none⟩ = some (.slice adL sx.length capL) := by rw [cell_of_row W _ 2 _ _ _ hb]; rfl
      have hs5 : w.heap.size + 6 ≤ W.heap.size := by have := (Array.getElem?_eq_some_iff.1 hP.hn).1; omega
      haveI : Old (w.heap.size + 1 + 1 + 1 + 1 + 1) W := ⟨by omega⟩
      haveI : Old (w.heap.size + 1 + 1 + 1 + 1) W := ⟨by omega⟩
      haveI : Old (w.heap.size + 1 + 1 + 1) W := ⟨by omega⟩
      haveI : Old (w.heap.size + 1 + 1) W := ⟨by omega⟩
      haveI : Old (w.heap.size + 1) W := ⟨by omega⟩
      haveI : Old (w.heap.size) W := ⟨by omega⟩
      have cR := Calls.at (Right_at (secs := secs) hG (by omega) hL (by omega))
      have HP := Lib.hid hP
      have HG := Lib.hid hG
      have HL := Lib.hid hL
      have HK := Lib.hid hK
      clear hI hIx hcap hN hpr hB0 hG hL hP hK hb hP0
      by_cases hgs : gs = []
      · subst hgs
        rw [if_pos rfl] at hTs
        simp only [List.length_nil] at *
        have HTs := Lib.hid hTs
        clear hTs cR
        go_wp2_with fail
        go_region
        go_wp2_with fail
        have hBX := (((((BX.start0 HP.out ((N : Int) + 1) 1 2).set0).set1).set2).set3).drew
        have hX := hBX.px HP.out trivial trivial trivial
        have hDk := (hBX.off.same W0.heap.size (by omega) (Array.getElem?_eq_some_iff.1 HK.out).1).trans HK.out
        rw [HTs.out] at hX
        refine ⟨by simp, .inl ⟨_, _, rfl, run_takeDeferred hDk, ?_⟩⟩
        rw [HT.out]
        obtain ⟨hbel, hno, h1, h2, h3, h4⟩ := hX
        exact parse_fin rfl _ w _ _ _ T (.slice none 0 0) (.slice none 0 0) rfl rfl rfl rfl (by omega) (by omega) ⟨_, hDk⟩ hbel (by rw [hno]; exact h1) h2 h3 h4 (by rw [hno]; exact World.ownsRow_nil _ _ _ _) (by rw [hno]; exact World.ownsRow_nil _ _ _ _)
      · rw [if_neg hgs] at hTs
        have hgl0 : ((gs.length : Int) == 0) = false := by
          rw [beq_eq_false_iff_ne]
          intro e
          exact hgs (List.length_eq_zero_iff.1 (by omega))
        by_cases hri : rightS gs secs sx = 0
        · rw [if_neg (by simpa using hri)] at hTs
          rw [hri] at cR
          have HTs := Lib.hid hTs
          clear hTs
          go_wp2_with (go_at_call 19; refine cR.mono ?_; rintro e w' ⟨rfl, g, rfl⟩)
          obtain ⟨V1, hV1⟩ : ∃ V1, (((W.setCell ⟨w.heap.size, 0, none⟩ (.slice adG gs.length capG)).setCell ⟨w.heap.size, 1, none⟩ (.int .i64 secs)).setCell ⟨w.heap.size, 2, none⟩ (.slice adL sx.length capL)) = V1 := ⟨_, rfl⟩
          have hV10 : V1.heap[w.heap.size]? = some (.cells #[.slice adG gs.length capG, .int .i64 secs, .slice adL sx.length capL] 28 (0, 0)) := by
            rw [← hV1]
            exact heap_set_cells (heap_set_cells (heap_set_cells HP.out.h1 _) _) _
          have hO1 : Off (fun k => w.heap.size ≤ k ∧ k < w.heap.size + 4) W V1 := by
            rw [← hV1]
            exact Off.setCell (Off.setCell (Off.setCell (Off.refl _ _) (p := ⟨w.heap.size, 0, none⟩) (by simp) _) (p := ⟨w.heap.size, 1, none⟩) (by simp) _) (p := ⟨w.heap.size, 2, none⟩) (by simp) _
          have hx1 : ∀ k, k ≠ w.heap.size → V1.heap[k]? = W.heap[k]? := fun k hk => by
            rw [← hV1, Below.heap_setCell _ _ _ _ (by exact hk), Below.heap_setCell _ _ _ _ (by exact hk), Below.heap_setCell _ _ _ _ (by exact hk)]
          obtain ⟨V2, hV2⟩ : ∃ V2, (((V1.setCell ⟨w.heap.size + 1, 0, none⟩ (.int .i64 0)).setCell ⟨w.heap.size + 1 + 1, 0, none⟩ (.int .i64 0)).setCell ⟨w.heap.size + 1 + 1 + 1, 0, none⟩ (.int .i64 0)) = V2 := ⟨_, rfl⟩
          have hO2 : Off (fun k => w.heap.size ≤ k ∧ k < w.heap.size + 4) V1 V2 := by
            rw [← hV2]
            exact Off.setCell (Off.setCell (Off.setCell (Off.refl _ _) (p := ⟨w.heap.size + 1, 0, none⟩) (by simp) _) (p := ⟨w.heap.size + 1 + 1, 0, none⟩) (by simp; omega) _) (p := ⟨w.heap.size + 1 + 1 + 1, 0, none⟩) (by simp; omega) _
          have hx2 : ∀ k, k ≠ w.heap.size + 1 → k ≠ w.heap.size + 1 + 1 → k ≠ w.heap.size + 1 + 1 + 1 → V2.heap[k]? = V1.heap[k]? := fun k hk hk2 hk3 => by
            rw [← hV2, Below.heap_setCell _ _ _ _ (by exact hk3), Below.heap_setCell _ _ _ _ (by exact hk2), Below.heap_setCell _ _ _ _ (by exact hk)]
          have h21 : V2.heap[w.heap.size + 1]? = some (.cells #[.int .i64 0] 3 (0, 0)) := by
            rw [← hV2, Below.heap_setCell _ _ _ _ (by show w.heap.size + 1 ≠ w.heap.size + 1 + 1 + 1; omega), Below.heap_setCell _ _ _ _ (by show w.heap.size + 1 ≠ w.heap.size + 1 + 1; omega)]
            exact heap_set_cells ((hx1 _ (by omega)).trans HP.out.h2) _
          have h22 : V2.heap[w.heap.size + 1 + 1]? = some (.cells #[.int .i64 0] 3 (0, 0)) := by
            rw [← hV2, Below.heap_setCell _ _ _ _ (by show w.heap.size + 1 + 1 ≠ w.heap.size + 1 + 1 + 1; omega)]
            exact heap_set_cells ((Below.heap_setCell _ _ _ _ (by show w.heap.size + 1 + 1 ≠ w.heap.size + 1; omega)).trans ((hx1 _ (by omega)).trans HP.out.h3)) _
          have h23 : V2.heap[w.heap.size + 1 + 1 + 1]? = some (.cells #[.int .i64 0] 29 (0, 0)) := by
            rw [← hV2]
            exact heap_set_cells ((Below.heap_setCell _ _ _ _ (by show w.heap.size + 1 + 1 + 1 ≠ w.heap.size + 1 + 1; omega)).trans ((Below.heap_setCell _ _ _ _ (by show w.heap.size + 1 + 1 + 1 ≠ w.heap.size + 1; omega)).trans ((hx1 _ (by omega)).trans HP.out.h4))) _
          have h20 := (hx2 w.heap.size (by omega) (by omega) (by omega)).trans hV10
          have hO := hO1.trans hO2
          rw [hV1, hV2]
          have hOg : Off (fun k => w.heap.size ≤ k ∧ k < w.heap.size + 4) W (gr V2 g) := hO.trans (Off.of_below (below_gr _ _))
          have hx : ∀ k o, V2.heap[k]? = some o → (gr V2 g).heap[k]? = some o := fun k o hk => by
            rw [gr_heap _ _ (Array.getElem?_eq_some_iff.1 hk).1]
            exact hk
          have hDk := (hOg.same W0.heap.size (by omega) (Array.getElem?_eq_some_iff.1 HK.out).1).trans HK.out
          rw [hz0] at hDk
          have hbel : Below w.heap.size w (gr V2 g) := HP.out.bel.trans ⟨hOg.base.os, hOg.base.tape, hOg.base.output, hOg.size, fun k hk => hOg.same k (by omega) (by omega)⟩
          have hTT : T = (⟨gs, secs, sx⟩, 0, 0, 0) := HTs.out.symm
          refine ⟨by simp, .inl ⟨_, _, rfl, run_takeDeferred hDk, ?_⟩⟩
          rw [HT.out, hTT]
          exact parse_fin rfl _ w _ _ _ (⟨gs, secs, sx⟩, 0, 0, 0) (.slice adG gs.length capG) (.slice adL sx.length capL) rfl rfl rfl rfl (by omega) (by omega) ⟨_, hDk⟩ hbel (hx _ _ h20) (hx _ _ h21) (hx _ _ h22) (hx _ _ h23)
            (ownsRow_off HG.out (fun k hk => hOg.same k (by have := (HG.out.lt k hk).1; omega) (HG.out.lt k hk).2)) (ownsRow_off HL.out (fun k hk => hOg.same k (by have := (HL.out.lt k hk).1; omega) (HL.out.lt k hk).2))
        · rw [if_pos hri] at hTs
          have hri1 : (rightS gs secs sx == 0) = false := by simpa using hri
          have HTs := Lib.hid hTs
          clear hTs
          go_wp2_with (go_at_call 19; refine cR.mono ?_; rintro e w' ⟨rfl, g, rfl⟩)
          have hBX := (((((BX.start0 HP.out 0 0 (rightS gs secs sx)).set0).set1).set2).set3).gr g
          have hX := hBX.px HP.out trivial trivial trivial
          have hDk := (hBX.off.same W0.heap.size (by omega) (Array.getElem?_eq_some_iff.1 HK.out).1).trans HK.out
          rw [hz0] at hDk
          rw [HTs.out] at hX
          refine ⟨by simp, .inl ⟨_, _, rfl, run_takeDeferred hDk, ?_⟩⟩
          rw [HT.out]
          obtain ⟨hbel, hno, h1, h2, h3, h4⟩ := hX
          exact parse_fin rfl _ w _ _ _ T (.slice none 0 0) (.slice none 0 0) rfl rfl rfl rfl (by omega) (by omega) ⟨_, hDk⟩ hbel (by rw [hno]; exact h1) h2 h3 h4 (by rw [hno]; exact World.ownsRow_nil _ _ _ _) (by rw [hno]; exact World.ownsRow_nil _ _ _ _)
    case hstop =>
      rintro c pre W _ ⟨rfl, hPX⟩ hK
      have HK := Lib.hid hK
      have HPX := Lib.hid hPX
      clear hI hIx hcap hK hPX
      refine wpIn_wide.2 ?_
      go_wp2_with fail
      refine ⟨by simp, .inl ⟨_, _, rfl, run_takeDeferred HK.out, ?_⟩⟩
      rw [HT.out]
      obtain ⟨hbel, hno, h1, h2, h3, h4⟩ := HPX.out
      exact parse_fin rfl _ w W _ _ T (.slice none 0 0) (.slice none 0 0) rfl rfl rfl rfl (by omega) (by omega) ⟨_, HK.out⟩ hbel (by rw [hno]; exact h1) h2 h3 h4 (by rw [hno]; exact World.ownsRow_nil _ _ _ _) (by rw [hno]; exact World.ownsRow_nil _ _ _ _)

end Go.Proofs.Ytajionjffijffaa

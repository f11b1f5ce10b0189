/-
  A range over a function whose iterator turns ONE cell block that lay there before (a captured variable), b0: a round leaves b0 and the loop's own two blocks; the iterator leaves all but b0.
-/
import Derived.Test.YtajionjffijffaaRange
namespace Go.Proofs.Ytajionjffijffaa
open Go.RowKit Go.Sort

/-- All that lies outside X lies as it lay; new blocks may have come. -/
structure Off (X : Nat → Prop) (W W' : World) : Prop where
  base : Below 0 W W'
  same : ∀ k, ¬ X k → k < W.heap.size → W'.heap[k]? = W.heap[k]?
theorem Off.refl (X : Nat → Prop) (W : World) : Off X W W := ⟨Below.refl _ _, fun _ _ _ => rfl⟩
theorem Off.size {X : Nat → Prop} {W W' : World} (h : Off X W W') : W.heap.size ≤ W'.heap.size := h.base.size
theorem Off.trans {X : Nat → Prop} {A B C : World} (h : Off X A B) (k : Off X B C) : Off X A C := ⟨h.base.trans k.base, fun i hi hl => (k.same i hi (Nat.lt_of_lt_of_le hl h.size)).trans (h.same i hi hl)⟩
theorem Off.mono {X Y : Nat → Prop} {W W' : World} (h : Off X W W') (hx : ∀ k, X k → Y k) : Off Y W W' := ⟨h.base, fun k hk => h.same k fun e => hk (hx k e)⟩
theorem Off.of_below {X : Nat → Prop} {W W' : World} (h : Below W.heap.size W W') : Off X W W' := ⟨h.mono (Nat.zero_le _), fun k _ hk => h.block k hk⟩
theorem Off.setCell {X : Nat → Prop} {A W : World} (h : Off X A W) {p : Addr} (hp : X p.block) (u : Value) : Off X A (W.setCell p u) :=
  h.trans ⟨Below.setCell (Below.refl _ _) (Nat.zero_le _) u, fun k hk _ => by
    by_cases e : k = p.block
    · subst e; exact absurd hp hk
    · simp [World.setCell, Array.getElem?_modify, Ne.symm e]⟩
theorem Off.put {X : Nat → Prop} (W : World) (l : Nat) (o o' : Obj) (hX : X l) (hl : W.heap[l]? = some o) : Off X W (W.putObj l o') :=
  ⟨below_put W l o o' (Nat.zero_le _) hl (Nat.zero_le _), fun _ hk _ => World.putObj_heap_other (fun e => hk (e ▸ hX))⟩
theorem Off.cell {X : Nat → Prop} {W W' : World} (h : Off X W W') {p : Addr} (hp : ¬ X p.block) (hl : p.block < W.heap.size) : W'.cell? p = W.cell? p := World.cell?_of_block (h.same _ hp hl)
theorem Off.frozen {X : Nat → Prop} {W W' : World} (h : Off X W W') {p : Addr} (hp : ¬ X p.block) (hl : p.block < W.heap.size) : W'.frozen? p = W.frozen? p := World.frozen?_of_block (h.same _ hp hl)
/-- What is said of a world abides a turn of whatever lies in X. -/
def Abides {β : Type} (X : Nat → Prop) (I : β → World → Prop) : Prop := ∀ s W W', I s W → Off X W W' → I s W'
theorem abides_and {β : Type} {X : Nat → Prop} {I I' : β → World → Prop} (h : Abides X I) (h' : Abides X I') : Abides X (fun s W => I s W ∧ I' s W) := fun _ _ _ hs hb => ⟨h _ _ _ hs.1 hb, h' _ _ _ hs.2 hb⟩
theorem abides_pure {β : Type} {X : Nat → Prop} (p : β → Prop) : Abides X (fun s (_ : World) => p s) := fun _ _ _ hs _ => hs

/-- The contract of such an iterator. S: the lists that may come; K: the state in which it is called. -/
def SeqCap {α : Type} (P : Program) (g : Nat) (lb : Array Value) (encs : α → Array Value) (S : List α → Prop) (b0 : Nat) (K : World → Prop) : Prop :=
  ∀ (l : Nat) (J Jx : List α → World → Prop) (W : World), K W → b0 < W.heap.size → Abides (fun k => k = b0) J → Abides (fun k => k = b0) Jx →
    (∀ m pre x W1, J pre W1 → b0 < W1.heap.size → (∃ xs, S xs ∧ pre ++ [x] <+: xs) → YieldAt Fence.wide m P l (encs x) W1 fun e W' =>
      (e = .returned (.bool true) ∧ J (pre ++ [x]) W' ∧ W1.heap.size ≤ W'.heap.size ∧ W'.heap[b0]? = W1.heap[b0]?) ∨ (e = .returned (.bool false) ∧ Jx (pre ++ [x]) W')) →
    J [] W →
    Calls P g (#[.func (.yield l) #[] #[]] ++ lb) W fun e W' => (∃ v, e = .returned v) ∧ ((∃ xs, S xs ∧ J xs W') ∨ (∃ pre xs, S xs ∧ pre <+: xs ∧ Jx pre W'))

/-- how the body of a round may be left -/
def capPost {α : Type} (b0 B : Nat) (I : List α → World → Prop) (Ix : Code → List α → World → Prop) (xs : List α) (W : World) : Exit → Act → World → Prop
  | .normal, _, W' => (W.heap.size ≤ W'.heap.size ∧ ∀ k, k = b0 ∨ k = B ∨ k = B + 1 → W'.heap[k]? = W.heap[k]?) ∧ I xs W'
  | .ret, _, W' => (W.heap.size ≤ W'.heap.size ∧ ∀ k, k = b0 ∨ k = B ∨ k = B + 1 → W'.heap[k]? = W.heap[k]?) ∧ Ix .ret xs W'
  | .exit id, _, W' => (W.heap.size ≤ W'.heap.size ∧ ∀ k, k = b0 ∨ k = B ∨ k = B + 1 → W'.heap[k]? = W.heap[k]?) ∧ Ix (.exit id) xs W'
  | .goto t, _, W' => (W.heap.size ≤ W'.heap.size ∧ ∀ k, k = b0 ∨ k = B ∨ k = B + 1 → W'.heap[k]? = W.heap[k]?) ∧ Ix (.goto t) xs W'
  | .panic _, _, _ => False
  | .outgrown, _, _ => False

/-- The law of the statement. -/
theorem wpIn_range_cap {P : Program} {n : Nat} {α : Type} {g : Operand} {ps : Array Tmp} {assign body : Code} {Q : Exit → Act → World → Prop} {a : Act} {w : World}
    {gf : Nat} {lb : Array Value} (hg : a.eval g = .func (.func gf) #[] lb) (eg : ∀ args w, (callFunc gf args).run P w = .ok (.enter gf args) w)
    {encs : α → Array Value} {S : List α → Prop} {b0 : Nat} {Kw : World → Prop} (hseq : SeqCap P gf lb encs S b0 Kw) (hb0 : b0 < w.heap.size)
    (hK0 : ∀ W, Off (fun k => k = w.heap.size ∨ k = w.heap.size + 1) w W → Kw W) (hps : ∀ x, (encs x).size = ps.size)
    (I : List α → World → Prop) (Ix : Code → List α → World → Prop)
    (hI : Abides (fun k => k = b0 ∨ k = w.heap.size ∨ k = w.heap.size + 1) I) (hIx : ∀ c, Abides (fun k => k = b0 ∨ k = w.heap.size ∨ k = w.heap.size + 1) (Ix c)) (h0 : I [] w) (a₁ : α → Act)
    (hassign : ∀ (l m : Nat) (x : α) (W : World) (K : Act → World → Prop), K (a₁ x) W →
      assign.wpIn (Fence.wide.inRound l) m P (Exit.then K (fun _ _ _ => False)) { tmps := (ps.zip (encs x)).foldl (fun t (p, v) => t.setIfInBounds p v) a.tmps, defers := [] } W)
    (hbody : ∀ (l m : Nat) (pre : List α) (x : α) (W : World), I pre W → w.heap.size + 2 ≤ W.heap.size → (∃ xs, S xs ∧ pre ++ [x] <+: xs) →
      body.wpIn (Fence.wide.inRound l) m P (capPost b0 w.heap.size I Ix (pre ++ [x]) W) (a₁ x) W)
    (hdone : ∀ (xs : List α) (W : World), S xs → I xs W → W.heap[w.heap.size]? = some (.deferred (some [])) →
      Q .normal { a with defers := { target := .collected w.heap.size, args := #[] } :: a.defers } W)
    (hstop : ∀ (c : Code) (pre : List α) (W : World), (∃ xs, S xs ∧ pre <+: xs) → Ix c pre W → W.heap[w.heap.size]? = some (.deferred (some [])) →
      c.wpIn Fence.wide n P Q { a with defers := { target := .collected w.heap.size, args := #[] } :: a.defers } W) :
    (Code.rangeFunc g ps assign body).wpIn Fence.wide n P Q a w := by
  refine wpIn_rangeFunc ?_
  intro fn hfn
  rw [show Fence.wide.round = none from rfl]
  obtain ⟨rec, hrec⟩ : ∃ rec : LoopState → Option Code → Loop, rec = fun st pe => { state := st, pending := pe, fn, tmps := a.tmps, params := ps, assign, body, defers := w.heap.size } := ⟨_, rfl⟩
  obtain ⟨W1, hW1⟩ : ∃ W1, (w.alloc (.deferred (some []))).alloc (.loop (rec .ready none)) = W1 := ⟨_, rfl⟩
  have hs1 : W1.heap.size = w.heap.size + 2 := by rw [← hW1]; simp
  have hL1 : W1.heap[w.heap.size + 1]? = some (.loop (rec .ready none)) := by
    rw [← hW1]; have := World.alloc_heap_new (w.alloc (.deferred (some []))) (.loop (rec .ready none)); rwa [World.size_alloc] at this
  have hK1 : W1.heap[w.heap.size]? = some (.deferred (some [])) := by
    rw [← hW1]; exact (Below.heap_alloc _ _ _ (by simp)).trans (World.alloc_heap_new w _)
  have hbw : Below w.heap.size w W1 := by rw [← hW1]; exact ((Below.refl _ w).alloc (Nat.le_refl _) _).alloc (by simp) _
  have hI1 : I [] W1 := hI _ _ _ h0 (Off.of_below hbw)
  have hKw : Kw W1 := hK0 _ (Off.of_below hbw)
  have mX : ∀ k, k = b0 → k = b0 ∨ k = w.heap.size ∨ k = w.heap.size + 1 := fun k h => .inl h
  refine ⟨w.heap.size + 1, [{ target := .collected w.heap.size, args := #[] }], W1, { target := .fn (.func gf) lb, args := #[.func (.yield (w.heap.size + 1)) #[] #[]] }, W1, gf,
    #[.func (.yield (w.heap.size + 1)) #[] #[]] ++ lb, W1, ?_, ?_, ?_, ?_, fun h => (by simp [Fence.wide] at h), ?_⟩
  · rw [← hW1, hrec]; exact run_enterLoop_outer _ _ _ _ _
  · simp only [resolve, hg]
    simp [go_sem]
  · intro f' hf'; trivial
  · simp [invoke, go_sem, eg]
  · refine callsIn_wide.2 ?_
    refine (hseq (w.heap.size + 1)
      (fun pre W => I pre W ∧ w.heap.size + 2 ≤ W.heap.size ∧ W.heap[w.heap.size + 1]? = some (.loop (rec .ready none)) ∧ W.heap[w.heap.size]? = some (.deferred (some [])))
      (fun pre W => ∃ c, Ix c pre W ∧ W.heap[w.heap.size + 1]? = some (.loop (rec .done (some c))) ∧ W.heap[w.heap.size]? = some (.deferred (some [])))
      W1 hKw (by omega)
      (fun s A B hs hab => ⟨hI s A B hs.1 (hab.mono mX), Nat.le_trans hs.2.1 hab.size, (hab.same _ (by omega) (by have := hs.2.1; omega)).trans hs.2.2.1, (hab.same _ (by omega) (by have := hs.2.1; omega)).trans hs.2.2.2⟩)
      (fun s A B hs hab => by
        obtain ⟨c, hc, hl, hk⟩ := hs
        have l1 := (Array.getElem?_eq_some_iff.1 hl).1
        exact ⟨c, hIx c s A B hc (hab.mono mX), (hab.same _ (by omega) l1).trans hl, (hab.same _ (by omega) (by omega)).trans hk⟩)
      ?_ ⟨hI1, by omega, hL1, hK1⟩).mono ?_
    · -- one round
      rintro m pre x W ⟨hi, hsz, hl, hk⟩ hb1 hpre
      have hlt : w.heap.size + 1 < W.heap.size := by omega
      have hy := run_yield (P := P) (args := encs x) hl (by rw [hrec]; exact hps x)
      rw [hrec] at hy
      refine ⟨fn, _, assign, body, hy, roundIn_of_wpIn hfn (hassign _ _ x W _ ⟨_, run_beginRound hl (by rw [hrec]), ?_⟩)⟩
      have hl2 : (W.putObj (w.heap.size + 1) (.loop { rec .ready none with state := .busy })).heap[w.heap.size + 1]? = some (.loop { rec .ready none with state := .busy }) := World.putObj_heap_same hlt
      have hk2 : (W.putObj (w.heap.size + 1) (.loop { rec .ready none with state := .busy })).heap[w.heap.size]? = some (.deferred (some [])) := (World.putObj_heap_other (by omega)).trans hk
      have hz2 : (W.putObj (w.heap.size + 1) (.loop { rec .ready none with state := .busy })).heap.size = W.heap.size := by simp [World.putObj]
      have hc2 : (W.putObj (w.heap.size + 1) (.loop { rec .ready none with state := .busy })).heap[b0]? = W.heap[b0]? := World.putObj_heap_other (by omega)
      have hi2 := hI _ _ _ hi (Off.put W (w.heap.size + 1) _ (.loop { rec .ready none with state := .busy }) (.inr (.inr rfl)) hl)
      refine wpIn_mono (hbody _ _ pre x _ hi2 (Nat.le_trans hsz (Nat.le_of_eq hz2.symm)) hpre) ?_
      have fin : ∀ (jump : Option Code) (W3 : World), ((W.putObj (w.heap.size + 1) (.loop { rec .ready none with state := .busy })).heap.size ≤ W3.heap.size ∧
          ∀ k, k = b0 ∨ k = w.heap.size ∨ k = w.heap.size + 1 → W3.heap[k]? = (W.putObj (w.heap.size + 1) (.loop { rec .ready none with state := .busy })).heap[k]?) →
          (Instr.endRound (w.heap.size + 1) jump).run P W3 = .ok (.bool jump.isNone) (W3.putObj (w.heap.size + 1) (.loop (rec (if jump.isNone then .ready else .done) jump))) ∧
          (W3.putObj (w.heap.size + 1) (.loop (rec (if jump.isNone then .ready else .done) jump))).heap[w.heap.size + 1]? = some (.loop (rec (if jump.isNone then .ready else .done) jump)) ∧
          (W3.putObj (w.heap.size + 1) (.loop (rec (if jump.isNone then .ready else .done) jump))).heap[w.heap.size]? = some (.deferred (some [])) ∧
          (W3.putObj (w.heap.size + 1) (.loop (rec (if jump.isNone then .ready else .done) jump))).heap.size = W3.heap.size ∧
          (W3.putObj (w.heap.size + 1) (.loop (rec (if jump.isNone then .ready else .done) jump))).heap[b0]? = W.heap[b0]? ∧
          Off (fun k => k = b0 ∨ k = w.heap.size ∨ k = w.heap.size + 1) W3 (W3.putObj (w.heap.size + 1) (.loop (rec (if jump.isNone then .ready else .done) jump))) := fun jump W3 hk3 => by
        have hl3 := (hk3.2 _ (.inr (.inr rfl))).trans hl2
        have hkk := (hk3.2 _ (.inr (.inl rfl))).trans hk2
        have hcc := (hk3.2 _ (.inl rfl)).trans hc2
        have := run_endRound (P := P) jump hl3
        rw [hrec] at this ⊢
        exact ⟨this, World.putObj_heap_same (Array.getElem?_eq_some_iff.1 hl3).1, (World.putObj_heap_other (by omega)).trans hkk, by simp [World.putObj], (World.putObj_heap_other (by omega)).trans hcc, Off.put _ _ _ _ (.inr (.inr rfl)) hl3⟩
      rintro e a3 W3 hp
      cases e with
      | normal =>
        obtain ⟨hk3, hi3⟩ := hp
        obtain ⟨hr, hl4, hk4, hz4, hc4, hb4⟩ := fin none W3 hk3
        have h34 : W.heap.size ≤ (W3.putObj (w.heap.size + 1) (.loop (rec (if (none : Option Code).isNone then .ready else .done) none))).heap.size :=
          Nat.le_trans (Nat.le_trans (Nat.le_of_eq hz2.symm) hk3.1) (Nat.le_of_eq hz4.symm)
        exact ⟨_, _, hr, .inl ⟨rfl, ⟨hI _ _ _ hi3 hb4, Nat.le_trans hsz h34, hl4, hk4⟩, h34, hc4⟩⟩
      | ret =>
        obtain ⟨hk3, hi3⟩ := hp
        obtain ⟨hr, hl4, hk4, hz4, hc4, hb4⟩ := fin (some .ret) W3 hk3
        exact ⟨_, _, hr, .inr ⟨rfl, .ret, hIx _ _ _ _ hi3 hb4, hl4, hk4⟩⟩
      | exit id =>
        obtain ⟨hk3, hi3⟩ := hp
        obtain ⟨hr, hl4, hk4, hz4, hc4, hb4⟩ := fin (some (.exit id)) W3 hk3
        exact ⟨_, _, hr, .inr ⟨rfl, .exit id, hIx _ _ _ _ hi3 hb4, hl4, hk4⟩⟩
      | goto t =>
        obtain ⟨hk3, hi3⟩ := hp
        obtain ⟨hr, hl4, hk4, hz4, hc4, hb4⟩ := fin (some (.goto t)) W3 hk3
        exact ⟨_, _, hr, .inr ⟨rfl, .goto t, hIx _ _ _ _ hi3 hb4, hl4, hk4⟩⟩
      | panic ch => exact hp.elim
      | outgrown => exact hp.elim
    · -- behind the iterator
      rintro e W2 ⟨⟨v, rfl⟩, (⟨xs, hS, hi, hsz, hl, hk⟩ | ⟨pre, xs, hS, hpre, c, hi, hl, hk⟩)⟩
      · exact ⟨none, _, by have := run_endLoop (P := P) hl (by rw [hrec]; simp); rw [hrec] at this; exact this, hdone xs _ hS (hI _ _ _ hi (Off.put _ _ _ _ (.inr (.inr rfl)) hl)) ((World.putObj_heap_other (by omega)).trans hk)⟩
      · exact ⟨some c, _, by have := run_endLoop (P := P) hl (by rw [hrec]; simp); rw [hrec] at this; exact this, hstop c pre _ ⟨xs, hS, hpre⟩ (hIx _ _ _ _ hi (Off.put _ _ _ _ (.inr (.inr rfl)) hl)) ((World.putObj_heap_other (by omega)).trans hk)⟩

end Go.Proofs.Ytajionjffijffaa

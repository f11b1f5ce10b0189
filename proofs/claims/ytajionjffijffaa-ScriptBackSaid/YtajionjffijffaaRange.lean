/-
  A range over a function whose iterator keeps its state in CELLS OF ITS OWN: blocks laid since its call began.
  The iterator's steps leave what lay below its call's first block; a round leaves what lies from the loop's own first block on.
-/
import Derived.RangeFuncNested
import Derived.RangeFuncCalls
import Derived.RangeFuncLeaves
import Derived.WalkKit
import Derived.OwnWalkIn
import Derived.TacticsInMore
import Derived.LoopNIn
import Derived.LoopIn
import Derived.Test.YtajionjffijffaaGr
namespace Go.Proofs.Ytajionjffijffaa
open Go.RowKit Go.Sort

/-- What lies from B on lies as it lay. -/
structure Kept (B : Nat) (W W' : World) : Prop where
  size : W.heap.size ≤ W'.heap.size
  same : ∀ k, B ≤ k → k < W.heap.size → W'.heap[k]? = W.heap[k]?

theorem Kept.refl (B : Nat) (W : World) : Kept B W W := ⟨Nat.le_refl _, fun _ _ _ => rfl⟩
theorem Kept.trans {B : Nat} {X Y Z : World} (h : Kept B X Y) (k : Kept B Y Z) : Kept B X Z := ⟨Nat.le_trans h.size k.size, fun i hB hi => (k.same i hB (Nat.lt_of_lt_of_le hi h.size)).trans (h.same i hB hi)⟩
theorem Kept.mono {B B' : Nat} {W W' : World} (h : Kept B W W') (hB : B ≤ B') : Kept B' W W' := ⟨h.size, fun k hk => h.same k (Nat.le_trans hB hk)⟩
theorem Kept.of_below {B : Nat} {W W' : World} (h : Below W.heap.size W W') : Kept B W W' := ⟨h.size, fun k _ hk => h.block k hk⟩
theorem Kept.gr (B : Nat) (W : World) (g : Gr) : Kept B W (gr W g) := .of_below (below_gr W g)
theorem Kept.setCell {B : Nat} {X W : World} (h : Kept B X W) {p : Addr} (hp : p.block < B) (u : Value) : Kept B X (W.setCell p u) :=
  h.trans ⟨by simp [World.setCell], fun k hB hk => Below.heap_setCell _ _ _ _ (by omega)⟩

/-- What is said of a world abides a turn of whatever lies from B on. -/
def From {β : Type} (B : Nat) (I : β → World → Prop) : Prop := ∀ s W W', I s W → Below B W W' → I s W'

/-- The contract of an iterator that keeps its state in cells of its own. S: the lists that may come. -/
def SeqOwn {α : Type} (P : Program) (g : Nat) (lb : Array Value) (encs : α → Array Value) (S : List α → Prop) (w : World) : Prop :=
  ∀ (l : Nat) (J Jx : List α → World → Prop) (W : World), Below w.heap.size w W → From W.heap.size J → From W.heap.size Jx →
    (∀ m pre x W1, J pre W1 → (∃ xs, S xs ∧ pre ++ [x] <+: xs) → YieldAt Fence.wide m P l (encs x) W1 fun e W' =>
      (e = .returned (.bool true) ∧ J (pre ++ [x]) W' ∧ Kept W.heap.size W1 W') ∨ (e = .returned (.bool false) ∧ Jx (pre ++ [x]) W')) →
    J [] W →
    Calls P g (#[.func (.yield l) #[] #[]] ++ lb) W fun e W' => (∃ v, e = .returned v) ∧ ((∃ xs, S xs ∧ J xs W') ∨ (∃ pre xs, S xs ∧ pre <+: xs ∧ Jx pre W'))

/-- how the body of a round may be left -/
def ownPostC {α : Type} (B : Nat) (I : List α → World → Prop) (Ix : Code → List α → World → Prop) (xs : List α) (W : World) : Exit → Act → World → Prop
  | .normal, _, W' => Kept B W W' ∧ I xs W'
  | .ret, _, W' => Kept B W W' ∧ Ix .ret xs W'
  | .exit id, _, W' => Kept B W W' ∧ Ix (.exit id) xs W'
  | .goto t, _, W' => Kept B W W' ∧ Ix (.goto t) xs W'
  | .panic _, _, _ => False
  | .outgrown, _, _ => False

theorem below_put {B : Nat} (W : World) (l : Nat) (o o' : Obj) (hl : B ≤ l) (_ : W.heap[l]? = some o) (hB : B ≤ W.heap.size) : Below B W (W.putObj l o') :=
  (Below.refl B W).grown (grownBy_putObj' W l o') hB (fun k e => by cases e; exact hl)

/-- The law of the statement. -/
theorem wpIn_range_own {P : Program} {n : Nat} {α : Type} {g : Operand} {ps : Array Tmp} {assign body : Code} {Q : Exit → Act → World → Prop} {a : Act} {w : World}
    {gf : Nat} {lb : Array Value} (hg : a.eval g = .func (.func gf) #[] lb) (eg : ∀ args w, (callFunc gf args).run P w = .ok (.enter gf args) w)
    {encs : α → Array Value} {S : List α → Prop} {w0 : World} (hseq : SeqOwn P gf lb encs S w0) (hb0 : Below w0.heap.size w0 w) (hps : ∀ x, (encs x).size = ps.size)
    (I : List α → World → Prop) (Ix : Code → List α → World → Prop) (hI : From w.heap.size I) (hIx : ∀ c, From w.heap.size (Ix c)) (h0 : I [] w) (a₁ : α → Act)
    (hassign : ∀ (l m : Nat) (x : α) (W : World) (K : Act → World → Prop), K (a₁ x) W →
      assign.wpIn (Fence.wide.inRound l) m P (Exit.then K (fun _ _ _ => False)) { tmps := (ps.zip (encs x)).foldl (fun t (p, v) => t.setIfInBounds p v) a.tmps, defers := [] } W)
    (hbody : ∀ (l m : Nat) (pre : List α) (x : α) (W : World), I pre W → (∃ xs, S xs ∧ pre ++ [x] <+: xs) → body.wpIn (Fence.wide.inRound l) m P (ownPostC w.heap.size I Ix (pre ++ [x]) W) (a₁ x) W)
    (hdone : ∀ (D : Nat) (xs : List α) (W : World), w.heap.size ≤ D → S xs → I xs W → W.heap[D]? = some (.deferred (some [])) → Q .normal { a with defers := { target := .collected D, args := #[] } :: a.defers } W)
    (hstop : ∀ (D : Nat) (c : Code) (pre : List α) (W : World), w.heap.size ≤ D → (∃ xs, S xs ∧ pre <+: xs) → Ix c pre W → W.heap[D]? = some (.deferred (some [])) → c.wpIn Fence.wide n P Q { a with defers := { target := .collected D, args := #[] } :: a.defers } W) :
    (Code.rangeFunc g ps assign body).wpIn Fence.wide n P Q a w := by
  refine wpIn_rangeFunc ?_
  intro fn hfn
  rw [show Fence.wide.round = none from rfl]
  obtain ⟨rec, hrec⟩ : ∃ rec : LoopState → Option Code → Loop, rec = fun st pe => { state := st, pending := pe, fn, tmps := a.tmps, params := ps, assign, body, defers := w.heap.size } := ⟨_, rfl⟩
  obtain ⟨W1, hW1⟩ : ∃ W1, (w.alloc (.deferred (some []))).alloc (.loop (rec .ready none)) = W1 := ⟨_, rfl⟩
  have hs1 : W1.heap.size = w.heap.size + 2 := by rw [← hW1]; simp
  have hL1 : W1.heap[w.heap.size + 1]? = some (.loop (rec .ready none)) := by
    rw [← hW1]; have := World.alloc_heap_new (w.alloc (.deferred (some []))) (.loop (rec .ready none)); rwa [World.size_alloc] at this
  have hK1 : W1.heap[w.heap.size]? = some (.deferred (some [])) := by
    rw [← hW1]; exact (Below.heap_alloc _ _ _ (by simp)).trans (World.alloc_heap_new w _)
  have hbw : Below w.heap.size w W1 := by rw [← hW1]; exact ((Below.refl _ w).alloc (Nat.le_refl _) _).alloc (by simp) _
  have hI1 : I [] W1 := hI _ _ _ h0 hbw
  have hb1 : Below w0.heap.size w0 W1 := hb0.trans (hbw.mono hb0.size)
  refine ⟨w.heap.size + 1, [{ target := .collected w.heap.size, args := #[] }], W1, { target := .fn (.func gf) lb, args := #[.func (.yield (w.heap.size + 1)) #[] #[]] }, W1, gf,
    #[.func (.yield (w.heap.size + 1)) #[] #[]] ++ lb, W1, ?_, ?_, ?_, ?_, fun h => (by simp [Fence.wide] at h), ?_⟩
  · rw [← hW1, hrec]; exact run_enterLoop_outer _ _ _ _ _
  · simp only [resolve, hg]
    simp [go_sem]
  · intro f' hf'; trivial
  · simp [invoke, go_sem, eg]
  · refine callsIn_wide.2 ?_
    refine (hseq (w.heap.size + 1)
      (fun pre W => I pre W ∧ W.heap[w.heap.size + 1]? = some (.loop (rec .ready none)) ∧ W.heap[w.heap.size]? = some (.deferred (some [])))
      (fun pre W => ∃ c, Ix c pre W ∧ W.heap[w.heap.size + 1]? = some (.loop (rec .done (some c))) ∧ W.heap[w.heap.size]? = some (.deferred (some [])))
      W1 hb1
      (fun s A B hs hab => ⟨hI s A B hs.1 (hab.mono (by omega)), (hab.block _ (by omega)).trans hs.2.1, (hab.block _ (by omega)).trans hs.2.2⟩)
      (fun s A B hs hab => by
        obtain ⟨c, hc, hl, hk⟩ := hs
        exact ⟨c, hIx c s A B hc (hab.mono (by omega)), (hab.block _ (by omega)).trans hl, (hab.block _ (by omega)).trans hk⟩)
      ?_ ⟨hI1, hL1, hK1⟩).mono ?_
    · -- one round
      rintro m pre x W ⟨hi, hl, hk⟩ hpre
      have hlt : w.heap.size + 1 < W.heap.size := (Array.getElem?_eq_some_iff.1 hl).1
      have hy := run_yield (P := P) (args := encs x) hl (by rw [hrec]; exact hps x)
      rw [hrec] at hy
      refine ⟨fn, _, assign, body, hy, roundIn_of_wpIn hfn (hassign _ _ x W _ ⟨_, run_beginRound hl (by rw [hrec]), ?_⟩)⟩
      have hl2 : (W.putObj (w.heap.size + 1) (.loop { rec .ready none with state := .busy })).heap[w.heap.size + 1]? = some (.loop { rec .ready none with state := .busy }) := World.putObj_heap_same hlt
      have hk2 : (W.putObj (w.heap.size + 1) (.loop { rec .ready none with state := .busy })).heap[w.heap.size]? = some (.deferred (some [])) := (World.putObj_heap_other (by omega)).trans hk
      have hz2 : (W.putObj (w.heap.size + 1) (.loop { rec .ready none with state := .busy })).heap.size = W.heap.size := by simp [World.putObj]
      have hp2 : ∀ (V : World) (o : Obj), Kept W1.heap.size V (V.putObj (w.heap.size + 1) o) := fun V o => ⟨by simp [World.putObj], fun k hk _ => World.putObj_heap_other (by omega)⟩
      have hi2 := hI _ _ _ hi (below_put W (w.heap.size + 1) _ (.loop { rec .ready none with state := .busy }) (by omega) hl (by omega))
      refine wpIn_mono (hbody _ _ pre x _ hi2 hpre) ?_
      have fin : ∀ (jump : Option Code) (W3 : World), Kept w.heap.size (W.putObj (w.heap.size + 1) (.loop { rec .ready none with state := .busy })) W3 →
          (Instr.endRound (w.heap.size + 1) jump).run P W3 = .ok (.bool jump.isNone) (W3.putObj (w.heap.size + 1) (.loop (rec (if jump.isNone then .ready else .done) jump))) ∧
          W3.heap[w.heap.size + 1]? = some (.loop { rec .ready none with state := .busy }) ∧
          (W3.putObj (w.heap.size + 1) (.loop (rec (if jump.isNone then .ready else .done) jump))).heap[w.heap.size + 1]? = some (.loop (rec (if jump.isNone then .ready else .done) jump)) ∧
          (W3.putObj (w.heap.size + 1) (.loop (rec (if jump.isNone then .ready else .done) jump))).heap[w.heap.size]? = some (.deferred (some [])) ∧
          Below w.heap.size W3 (W3.putObj (w.heap.size + 1) (.loop (rec (if jump.isNone then .ready else .done) jump))) := fun jump W3 hk3 => by
        have hl3 := (hk3.same _ (by omega) (by omega)).trans hl2
        have hkk := (hk3.same _ (Nat.le_refl _) (by omega)).trans hk2
        have hsz := hk3.size
        have := run_endRound (P := P) jump hl3
        rw [hrec] at this ⊢
        exact ⟨this, by rw [hrec] at hl3; exact hl3, World.putObj_heap_same (Array.getElem?_eq_some_iff.1 hl3).1, (World.putObj_heap_other (by omega)).trans hkk, below_put _ _ _ _ (by omega) hl3 (by omega)⟩
      rintro e a3 W3 hp
      cases e with
      | normal =>
        obtain ⟨hk3, hi3⟩ := hp
        obtain ⟨hr, hl3, hl4, hk4, hb4⟩ := fin none W3 hk3
        exact ⟨_, _, hr, .inl ⟨rfl, ⟨hI _ _ _ hi3 hb4, hl4, hk4⟩, ((hp2 W _).trans (hk3.mono (by omega))).trans (hp2 _ _)⟩⟩
      | ret =>
        obtain ⟨hk3, hi3⟩ := hp
        obtain ⟨hr, hl3, hl4, hk4, hb4⟩ := fin (some .ret) W3 hk3
        exact ⟨_, _, hr, .inr ⟨rfl, .ret, hIx _ _ _ _ hi3 hb4, hl4, hk4⟩⟩
      | exit id =>
        obtain ⟨hk3, hi3⟩ := hp
        obtain ⟨hr, hl3, hl4, hk4, hb4⟩ := fin (some (.exit id)) W3 hk3
        exact ⟨_, _, hr, .inr ⟨rfl, .exit id, hIx _ _ _ _ hi3 hb4, hl4, hk4⟩⟩
      | goto t =>
        obtain ⟨hk3, hi3⟩ := hp
        obtain ⟨hr, hl3, hl4, hk4, hb4⟩ := fin (some (.goto t)) W3 hk3
        exact ⟨_, _, hr, .inr ⟨rfl, .goto t, hIx _ _ _ _ hi3 hb4, hl4, hk4⟩⟩
      | panic ch => exact hp.elim
      | outgrown => exact hp.elim
    · -- behind the iterator
      rintro e W2 ⟨⟨v, rfl⟩, (⟨xs, hS, hi, hl, hk⟩ | ⟨pre, xs, hS, hpre, c, hi, hl, hk⟩)⟩
      · have hlt : w.heap.size + 1 < W2.heap.size := (Array.getElem?_eq_some_iff.1 hl).1
        exact ⟨none, _, by have := run_endLoop (P := P) hl (by rw [hrec]; simp); rw [hrec] at this; exact this, hdone _ xs _ (Nat.le_refl _) hS (hI _ _ _ hi (below_put _ _ _ _ (by omega) hl (by omega))) ((World.putObj_heap_other (by omega)).trans hk)⟩
      · have hlt : w.heap.size + 1 < W2.heap.size := (Array.getElem?_eq_some_iff.1 hl).1
        exact ⟨some c, _, by have := run_endLoop (P := P) hl (by rw [hrec]; simp); rw [hrec] at this; exact this, hstop _ c pre _ (Nat.le_refl _) ⟨xs, hS, hpre⟩ (hIx _ _ _ _ hi (below_put _ _ _ _ (by omega) hl (by omega))) ((World.putObj_heap_other (by omega)).trans hk)⟩

/-- The caller's invariant as a world written out: what it may say abides. -/
theorem from_gr {β : Type} {B : Nat} (f : β → World) (hf : ∀ s, (f s).heap.size = B) : From B (fun s W => ∃ g : Gr, W = gr (f s) g) := by
  rintro s W W' ⟨g, rfl⟩ hb
  have h := below_gr (f s) g
  rw [hf s] at h
  have h' := h.trans hb
  rw [← hf s] at h'
  exact gr_of_below h'
theorem from_and {β : Type} {B : Nat} {I I' : β → World → Prop} (h : From B I) (h' : From B I') : From B (fun s W => I s W ∧ I' s W) := fun _ _ _ hs hb => ⟨h _ _ _ hs.1 hb, h' _ _ _ hs.2 hb⟩
theorem from_pure {β : Type} {B : Nat} (p : β → Prop) : From B (fun s (_ : World) => p s) := fun _ _ _ hs _ => hs

end Go.Proofs.Ytajionjffijffaa

/-
  A region that draws its order, whose operations leave old memory alone (they read, or call what only lays new blocks): each operation once, at whatever frame:
  what it yields is told by a property of the value and the world that abides growth. No frame is written out.
-/
import Derived.Test.YtajionjffijffaaReg2
namespace Go.Proofs.Ytajionjffijffaa
open Go.RowKit Go.Sort

/-- what a slot holds -/
def slot (a : Act) (k : Nat) : Value := a.tmps.getD k undef
theorem slot_same (a : Act) (k : Nat) (v : Value) (h : k < a.tmps.size) : slot (a.put (some k) v) k = v := by
  unfold slot Act.put
  simp only
  rw [Array.getD_eq_getD_getElem?, Array.getElem?_setIfInBounds]
  simp [h]
theorem slot_other (a : Act) (k j : Nat) (v : Value) (h : j ≠ k) : slot (a.put (some k) v) j = slot a j := by
  unfold slot Act.put
  simp only
  rw [Array.getD_eq_getD_getElem?, Array.getElem?_setIfInBounds_ne (Ne.symm h), Array.getD_eq_getD_getElem?]
theorem size_put (a : Act) (k : Nat) (v : Value) : (a.put (some k) v).tmps.size = a.tmps.size := by
  unfold Act.put
  simp

def dstAt (l : List Oper) (j : Nat) : Nat := match l[j]? with
  | some o => o.dst.getD 0
  | none => 0
/-- each operation has a slot of its own -/
def dstB (l : List Oper) (z : Nat) : Bool := (l.all fun o => match o.dst with
  | some d => decide (d < z)
  | none => false) && (List.range l.length).all fun i => (List.range l.length).all fun j => decide (i = j) || decide (dstAt l i ≠ dstAt l j)
/-- a slot that no operation of the region writes -/
def free (l : List Oper) (k : Nat) : Bool := l.all fun o => decide (o.dst ≠ some k)

section
variable {F : Fence} {n : Nat} {P : Program} {ops : Array Oper}

/-- an operation at whatever frame -/
def AllOK (F : Fence) (n : Nat) (P : Program) (ops : Array Oper) (L : List Oper) (a0 : Act) (Inv : World → Prop) (φ : Nat → Value → World → Prop) : Nat → List Oper → Prop
  | _, [] => True
  | k, o :: rest => (∀ a V, Inv V → (∀ j ∈ depsOf o, φ j (slot a (dstAt L j)) V) → (∀ s, free L s = true → slot a s = slot a0 s) →
      wpListIn F n P ops (relQ fun a' V' => ∃ v, a' = a.put o.dst v ∧ Inv V' ∧ Below V.heap.size V V' ∧ φ k v V') [o] a V) ∧ AllOK F n P ops L a0 Inv φ (k + 1) rest

theorem one_mono {o : Oper} {a : Act} {w : World} {K K' : Act → World → Prop} (hK : ∀ a' w', K a' w' → K' a' w') (h : wpListIn F n P ops (relQ K) [o] a w) : wpListIn F n P ops (relQ K') [o] a w := by
  simp only [wpListIn] at h ⊢
  split at h
  · rename_i hw
    rw [if_pos hw]
    exact Oper.wpIn_mono (fun a' w' hk => ⟨hk.1, hK _ _ hk.2⟩) (oper_relQ h)
  · rename_i hw
    rw [if_neg hw]
    exact ⟨h.1, h.2.1, hK _ _ h.2.2⟩

/-- the state -/
structure GS (L : List Oper) (a0 : Act) (Inv : World → Prop) (φ : Nat → Value → World → Prop) (listed : Array Bool) (a : Act) (V : World) : Prop where
  size : a.tmps.size = a0.tmps.size
  defers : a.defers = a0.defers
  rest : ∀ s, free L s = true → slot a s = slot a0 s
  vals : ∀ j, j < L.length → flag listed j → φ j (slot a (dstAt L j)) V
  inv : Inv V

theorem allRel_of_ok {L : List Oper} {a0 : Act} {Inv : World → Prop} {φ : Nat → Value → World → Prop} (hd : dstB L a0.tmps.size = true) (hb : backB L = true)
    (hp : ∀ j v V V', Inv V → Below V.heap.size V V' → φ j v V → φ j v V') :
    ∀ (l : List Oper) (k : Nat), (∀ i, i < l.length → L[k + i]? = l[i]?) → k + l.length = L.length → AllOK F n P ops L a0 Inv φ k l → AllRel F n P ops (GS L a0 Inv φ) k l
  | [], _, _, _, _ => trivial
  | o :: l, k, hl, hk, ⟨h1, h2⟩ => by
    refine ⟨?_, allRel_of_ok hd hb hp l (k + 1) (fun i hi => by have := hl (i + 1) (by simpa using hi); simpa [Nat.add_assoc, Nat.add_comm 1 i] using this) (by simpa [Nat.add_assoc, Nat.add_comm 1] using hk) h2⟩
    intro listed a w hG hlt hdeps
    have hko : L[k]? = some o := by simpa using hl 0 (by simp)
    have hkL : k < L.length := (List.getElem?_eq_some_iff.1 hko).1
    simp only [dstB, Bool.and_eq_true] at hd
    obtain ⟨hd1, hd2⟩ := hd
    obtain ⟨d, hdo, hdz⟩ : ∃ d, o.dst = some d ∧ d < a0.tmps.size := by
      have := (List.all_eq_true.1 hd1) o (List.mem_of_getElem? hko)
      cases hod : o.dst with
      | none => rw [hod] at this; cases this
      | some d => rw [hod] at this; exact ⟨d, rfl, by simpa using this⟩
    have hdk : dstAt L k = d := by unfold dstAt; rw [hko]; simp [hdo]
    have hback := (List.all_eq_true.1 hb) k (List.mem_range.2 hkL)
    rw [hko] at hback
    refine one_mono (fun a' w' ⟨v, ha, hi, hbel, hv⟩ => ?_) (h1 a w hG.inv (fun j hj => hG.vals j (by have : j < k := by simpa using (List.all_eq_true.1 hback) _ hj
                                                                                                      omega) (hdeps j hj)) hG.rest)
    subst ha
    rw [hdo]
    refine ⟨(size_put _ _ _).trans hG.size, hG.defers, fun s hs => ?_, fun j hj hf => ?_, hi⟩
    · have hsd : s ≠ d := fun e => by
        have := (List.all_eq_true.1 hs) o (List.mem_of_getElem? hko)
        simp [hdo, e] at this
      rw [slot_other _ _ _ _ hsd]
      exact hG.rest s hs
    · by_cases hjk : j = k
      · subst hjk
        rw [hdk, slot_same _ _ _ (by rw [hG.size]; exact hdz)]
        exact hv
      · have h3 := (List.all_eq_true.1 ((List.all_eq_true.1 hd2) j (List.mem_range.2 hj))) k (List.mem_range.2 hkL)
        have hne : dstAt L j ≠ d := by
          simp only [Bool.or_eq_true, decide_eq_true_eq] at h3
          rcases h3 with h3 | h3
          · exact absurd h3 hjk
          · rw [← hdk]; exact h3
        rw [slot_other _ _ _ _ hne]
        exact hp j _ w w' hG.inv hbel (hG.vals j hj ((flag_set hf).resolve_left hjk))

theorem wpIn_region_grow {id : Nat} {l : List Oper} {a : Act} {w : World} {Q : Exit → Act → World → Prop} (Inv : World → Prop) (φ : Nat → Value → World → Prop) (hm : P.follows .mixedOrders = true) (hb : backB l = true) (hd : dstB l a.tmps.size = true)
    (hp : ∀ j v V V', Inv V → Below V.heap.size V V' → φ j v V → φ j v V') (h0 : Inv w.drew) (hs : AllOK F n P l.toArray l a Inv φ 0 l)
    (hend : ∀ a' W, a'.tmps.size = a.tmps.size → a'.defers = a.defers → (∀ s, free l s = true → slot a' s = slot a s) → (∀ j, j < l.length → φ j (slot a' (dstAt l j)) W) → Inv W → Q .normal a' W) : (Code.region id l.toArray true).wpIn F n P Q a w := by
  refine wpIn_region_rel (fun a0 => GS l a0 Inv φ) hm hb ?_ (allRel_of_ok hd hb hp l 0 (fun i _ => by rw [Nat.zero_add]) (by simp) hs) ?_
  · intro listed h
    exact ⟨rfl, rfl, fun _ _ => rfl, fun j _ hf => by (unfold flag at hf; rw [h] at hf; cases hf), h0⟩
  · intro listed a' W hG hall
    exact hend a' W hG.size hG.defers hG.rest (fun j hj => hG.vals j hj (hall j hj)) hG.inv

/-! ### one operation -/
theorem ok_value {o : Oper} {a : Act} {V : World} {K : Act → World → Prop} {v : Value} (hw : Region.wanted o (yielded ops a.tmps) = true) (h : (execOp a.eval o).run P V = .ok (.value v) V) (hnd : ∀ c, o.op ≠ .defer c)
    (ha : ∀ f, o.about P V a.eval = some f → F.fn f) (hK : K (a.put o.dst v) V) : wpListIn F n P ops (relQ K) [o] a V := by
  simp only [wpListIn]
  rw [if_pos hw]
  refine ⟨ha, ?_⟩
  rw [Oper.semAt_eq _ _ _ hnd, h]
  exact ⟨rfl, hK⟩
theorem ok_skip {o : Oper} {a : Act} {V : World} {K : Act → World → Prop} (hw : Region.wanted o (yielded ops a.tmps) = false) (ha : ∀ f, o.about P V a.eval = some f → F.fn f) (hK : K (a.put o.dst undef) V) : wpListIn F n P ops (relQ K) [o] a V := by
  simp only [wpListIn]
  rw [if_neg (by rw [hw]; simp)]
  exact ⟨ha, rfl, hK⟩
theorem ok_call {o : Oper} {a : Act} {V : World} {K : Act → World → Prop} {f : FuncId} {args : Array Value} (hw : Region.wanted o (yielded ops a.tmps) = true) (h : (execOp a.eval o).run P V = .ok (.enter f args) V) (hnd : ∀ c, o.op ≠ .defer c)
    (hc : Calls P f args V fun e V' => ∃ v, e = .returned v ∧ K (a.put o.dst v) V') : wpListIn Fence.wide n P ops (relQ K) [o] a V := by
  simp only [wpListIn]
  rw [if_pos hw]
  refine ⟨fun _ _ => trivial, ?_⟩
  rw [Oper.semAt_eq _ _ _ hnd, h]
  refine ⟨fun h => (by simp [Fence.wide] at h), callsIn_wide.2 (hc.mono ?_)⟩
  rintro e V' ⟨v, rfl, hK⟩
  exact ⟨rfl, hK⟩
end

theorem eval_tmp (a : Act) (k : Nat) : a.eval (.tmp k) = slot a k := rfl
theorem eval_const (a : Act) (v : Value) : a.eval (.const v) = v := rfl
theorem slot_raw {a : Act} {k : Nat} {v : Value} (h : slot a k = v) : a.tmps[k]?.getD undef = v := by
  unfold slot at h
  rwa [Array.getD_eq_getD_getElem?] at h
theorem slot_bool {a : Act} {k : Nat} {b : Bool} (h : slot a k = .bool b) : a.tmps[k]? = some (.bool b) := by
  unfold slot at h
  rw [Array.getD_eq_getD_getElem?] at h
  cases hk : a.tmps[k]? with
  | none => rw [hk] at h; simp [undef] at h
  | some v => rw [hk] at h; simp at h; rw [h]
theorem wanted_none {o : Oper} {a : Act} {ops : Array Oper} (hg : o.guard = none) : Region.wanted o (yielded ops a.tmps) = true := by simp [Region.wanted, hg]
theorem wanted_at {o : Oper} {a : Act} {ops : Array Oper} {j d : Nat} {b b' r : Bool} (hg : o.guard = some (j, b)) (hd : (ops[j]?).bind (·.dst) = some d) (h : slot a d = .bool b') (hr : (some b' == some b) = r) : Region.wanted o (yielded ops a.tmps) = r := by
  unfold Region.wanted yielded
  rw [hg]
  simp only [hd, Option.bind_some, slot_bool h]
  exact hr

end Go.Proofs.Ytajionjffijffaa

/-
  A region that draws its order of evaluation, by a relation between what has come up, the slots and the memory:
  each operation is walked once, from whatever state of the relation; for a frame of a round too.
-/
import Derived.Test.YtajionjffijffaaGr
import Derived.BigRegionIn
namespace Go.Proofs.Ytajionjffijffaa
open Go.RowKit Go.Sort

section
variable {F : Fence} {n : Nat} {P : Program} {ops : Array Oper}

def relQ (K : Act → World → Prop) (e : Exit) (a : Act) (w : World) : Prop := e = .normal ∧ K a w

theorem oper_relQ {o : Oper} {a : Act} {w : World} {K Ka Kb : Act → World → Prop} (h : o.wpIn F n P a w K (relQ Ka)) : o.wpIn F n P a w K (relQ Kb) := by
  unfold Oper.wpIn at *
  refine ⟨h.1, ?_⟩
  have hh := h.2
  generalize (o.semAt F.round a.eval).run P w = r at *
  have h1 : ∀ (c : List PanicEntry) (a : Act) (w : World), relQ Ka (.panic c) a w → relQ Kb (.panic c) a w := fun c a w h => (by cases h.1)
  have h2 : LetsOut (relQ Ka) → LetsOut (relQ Kb) := fun h => by
    obtain ⟨a, w, h, _⟩ := h
    cases h
  cases r with
  | ok x w' =>
    cases x <;> simp only [Oper.uponIn] at hh ⊢ <;>
      first
        | exact hh
        | exact ⟨hh.1, CallsIn.mono hh.2 (fun e w'' he => by cases e <;> first | exact he | exact h1 _ _ _ he | exact h2 he)⟩
        | exact ⟨hh.1, RoundIn.mono hh.2 (fun e w'' he => by cases e <;> first | exact he | exact h1 _ _ _ he | exact h2 he)⟩
  | halt x w' => cases x <;> simp only [Oper.uponIn] at hh ⊢ <;> first | exact hh | exact h1 _ _ _ hh | exact h2 hh

def depsOf (o : Oper) : List Nat := (o.after.toList.filter fun e => Region.binds .any e).map (·.on)
def backB (l : List Oper) : Bool := (List.range l.length).all fun k => match l[k]? with
  | some o => (depsOf o).all fun j => decide (j < k)
  | none => true

/-- each operation, from whatever state of the relation at which it may come up -/
def AllRel (F : Fence) (n : Nat) (P : Program) (ops : Array Oper) (R : Array Bool → Act → World → Prop) : Nat → List Oper → Prop
  | _, [] => True
  | k, o :: rest =>
    (∀ listed a w, R listed a w → k < listed.size → (∀ j ∈ depsOf o, listed.getD j false = true) → wpListIn F n P ops (relQ (R (listed.setIfInBounds k true))) [o] a w) ∧ AllRel F n P ops R (k + 1) rest

theorem AllRel.get {R : Array Bool → Act → World → Prop} : ∀ (l : List Oper) (k j : Nat) (o : Oper), AllRel F n P ops R k l → l[j]? = some o →
    ∀ listed a w, R listed a w → k + j < listed.size → (∀ i ∈ depsOf o, listed.getD i false = true) → wpListIn F n P ops (relQ (R (listed.setIfInBounds (k + j) true))) [o] a w
  | [], _, _, _, _, h => by simp at h
  | x :: l, k, 0, o, H, h => by
    simp only [List.getElem?_cons_zero, Option.some.injEq] at h
    subst h
    exact H.1
  | x :: l, k, j + 1, o, H, h => by
    have := AllRel.get l (k + 1) j o H.2 (by simpa using h)
    rw [show k + 1 + j = k + (j + 1) by omega] at this
    exact this

/-- the operation j has come up (a name that simp does not open) -/
def flag (listed : Array Bool) (j : Nat) : Prop := listed.getD j false = true
theorem flag_set {listed : Array Bool} {k j : Nat} (h : flag (listed.setIfInBounds k true) j) : j = k ∨ flag listed j := by
  unfold flag at *
  by_cases hjk : j = k
  · exact .inl hjk
  · refine .inr ?_
    rw [Array.getD_eq_getD_getElem?, Array.getElem?_setIfInBounds_ne (Ne.symm hjk)] at h
    rw [Array.getD_eq_getD_getElem?]
    exact h

theorem ready_done {l : List Oper} {listed : Array Bool} (hb : backB l = true) (hz : listed.size = l.length) (hr : Region.ready .any l.toArray listed = []) : ∀ j, j < l.length → listed.getD j false = true := by
  intro j
  induction j using Nat.strongRecOn with
  | _ j ih =>
    intro hj
    cases hg : listed.getD j false with
    | true => rfl
    | false =>
      exfalso
      have ho : l[j]? = some l[j] := List.getElem?_eq_getElem hj
      have hm : j ∈ Region.ready .any l.toArray listed := by
        rw [mem_ready]
        refine ⟨?_, l[j], by simp [hj], ?_⟩
        · rw [Array.getD_eq_getD_getElem?, Array.getElem?_eq_getElem (by omega)] at hg ⊢
          exact hg
        · intro e he hbi
          have h1 := (List.all_eq_true.1 hb) j (List.mem_range.2 hj)
          rw [ho] at h1
          have h2 : e.on ∈ depsOf l[j] := List.mem_map.2 ⟨e, List.mem_filter.2 ⟨by simpa using he, hbi⟩, rfl⟩
          have h3 : e.on < j := by simpa using (List.all_eq_true.1 h1) _ h2
          exact ih _ h3 (by omega)
      rw [hr] at hm
      cases hm

theorem wpAnyIn_rel {l : List Oper} {Kb : Act → World → Prop} (R : Array Bool → Act → World → Prop) (hb : backB l = true) (hs : AllRel F n P l.toArray R 0 l)
    (hend : ∀ listed a w, R listed a w → (∀ j, j < l.length → listed.getD j false = true) → Kb a w) :
    ∀ (fuel : Nat) (listed : Array Bool) (a : Act) (w : World), listed.size = l.length → listed.toList.countP (fun b => !b) ≤ fuel → R listed a w →
      wpAnyIn F n P .any l.toArray (relQ Kb) fuel listed a w
  | 0, listed, a, w, hz, hc, hR => by
    have hr : Region.ready .any l.toArray listed = [] := by
      rw [List.eq_nil_iff_forall_not_mem]
      intro i hi
      have h1 := (mem_ready.1 hi).1
      rw [Array.getD_eq_getD_getElem?] at h1
      have h2 : i < listed.size := by
        rcases Nat.lt_or_ge i listed.size with h | h
        · exact h
        · rw [Array.getElem?_eq_none h] at h1; cases h1
      rw [Array.getElem?_eq_getElem h2] at h1
      have h3 : 0 < listed.toList.countP (fun b => !b) := List.countP_pos_iff.2 ⟨listed[i], by simp, by simpa using h1⟩
      omega
    exact ⟨hr, rfl, hend _ _ _ hR (ready_done hb hz hr)⟩
  | fuel + 1, listed, a, w, hz, hc, hR => by
    refine ⟨fun hr => ⟨rfl, hend _ _ _ hR (ready_done hb hz hr)⟩, fun i hi => ?_⟩
    obtain ⟨h1, o, ho, hd⟩ := mem_ready.1 hi
    rw [Array.getD_eq_getD_getElem?] at h1
    have h2 : i < listed.size := by
      rcases Nat.lt_or_ge i listed.size with h | h
      · exact h
      · rw [Array.getElem?_eq_none h] at h1; cases h1
    rw [Array.getElem?_eq_getElem h2] at h1
    have hcn : (listed.setIfInBounds i true).toList.countP (fun b => !b) ≤ fuel := by
      have h3 : 0 < listed.toList.countP (fun b => !b) := List.countP_pos_iff.2 ⟨listed[i], by simp, by simpa using h1⟩
      have h4 : (listed.setIfInBounds i true).toList = listed.toList.set i true := by simp
      rw [h4, List.countP_set (by simpa using h2)]
      simp only [Option.getD_some] at h1
      have h6 : listed.toList[i]'(by simpa using h2) = false := by simpa using h1
      rw [h6]
      simp only [Bool.not_false, if_true, Bool.not_true, Bool.false_eq_true, if_false]
      omega
    have h5 := hs.get l 0 i o (by simpa using ho) listed a w hR (by omega) (fun j hj => by
      obtain ⟨e, he, rfl⟩ := List.mem_map.1 hj
      obtain ⟨he1, he2⟩ := List.mem_filter.1 he
      exact hd e (by simpa using he1) he2)
    rw [Nat.zero_add] at h5
    unfold wpOpIn
    simp only [ho]
    simp only [wpListIn] at h5
    split at h5
    · rename_i hw
      rw [if_pos hw]
      exact Oper.wpIn_mono (fun a' w' hK => wpAnyIn_rel R hb hs hend fuel _ a' w' (by simpa using hz) hcn hK.2) (oper_relQ h5)
    · rename_i hw
      rw [if_neg hw]
      exact ⟨h5.1, wpAnyIn_rel R hb hs hend fuel _ _ _ (by simpa using hz) hcn h5.2.2⟩

theorem wpIn_region_rel {id : Nat} {l : List Oper} {a : Act} {w : World} {Q : Exit → Act → World → Prop} (R : Act → Array Bool → Act → World → Prop) (hm : P.follows .mixedOrders = true) (hb : backB l = true)
    (h0 : ∀ listed : Array Bool, (∀ j, listed.getD j false = false) → R a listed a w.drew) (hs : AllRel F n P l.toArray (R a) 0 l)
    (hend : ∀ listed a' W, R a listed a' W → (∀ j, j < l.length → listed.getD j false = true) → Q .normal a' W) : (Code.region id l.toArray true).wpIn F n P Q a w := by
  refine wpIn_mono (Q := relQ fun a' W => Q .normal a' W) ?_ (fun e a' W h => h.1 ▸ h.2)
  refine wpIn_region_any hm ?_
  refine wpAnyIn_rel (R a) hb hs hend _ _ _ _ (by simp) ?_ (h0 _ fun j => ?_)
  · refine Nat.le_trans List.countP_le_length ?_
    simp
  · rw [Array.getD_eq_getD_getElem?, Array.getElem?_replicate]
    split <;> rfl
theorem put_self (a : Act) (k : Nat) : a.put (some k) (a.tmps.getD k undef) = a := by
  obtain ⟨t, d⟩ := a
  unfold Act.put
  simp only
  congr 1
  apply Array.ext
  · simp
  · intro i h1 h2
    rw [Array.getElem_setIfInBounds (by simpa using h2)]
    split
    · rename_i h
      subst h
      rw [Array.getD_eq_getD_getElem?, Array.getElem?_eq_getElem h2]
      rfl
    · rfl
/-- the start: nine slots hold what they hold -/
theorem start9 (a : Act) (k0 k1 k2 k3 k4 k5 k6 k7 k8 : Nat) {C : Value → Value → Value → Value → Value → Value → Value → Value → Value → Prop} (h : ∀ s0 s1 s2 s3 s4 s5 s6 s7 s8, C s0 s1 s2 s3 s4 s5 s6 s7 s8) :
    ∃ s0 s1 s2 s3 s4 s5 s6 s7 s8 : Value, a = (((((((((a.put (some k0) s0).put (some k1) s1).put (some k2) s2).put (some k3) s3).put (some k4) s4).put (some k5) s5).put (some k6) s6).put (some k7) s7).put (some k8) s8) ∧ C s0 s1 s2 s3 s4 s5 s6 s7 s8 :=
  ⟨a.tmps.getD k0 undef, a.tmps.getD k1 undef, a.tmps.getD k2 undef, a.tmps.getD k3 undef, a.tmps.getD k4 undef, a.tmps.getD k5 undef, a.tmps.getD k6 undef, a.tmps.getD k7 undef, a.tmps.getD k8 undef, by simp only [put_self], h _ _ _ _ _ _ _ _ _⟩
end

end Go.Proofs.Ytajionjffijffaa

/-
  The law of XReg, which says besides that the operation has not come up yet, and that whatever has come up had all come up that it waits for.
-/
import Derived.Test.YtajionjffijffaaReg
namespace Go.Proofs.Ytajionjffijffaa
open Go.RowKit Go.Sort

section
variable {F : Fence} {n : Nat} {P : Program} {ops : Array Oper}

def depsAt (l : List Oper) (j : Nat) : List Nat := match l[j]? with
  | some o => depsOf o
  | none => []
/-- what has come up is closed -/
def Closed (l : List Oper) (listed : Array Bool) : Prop := ∀ j i, listed.getD j false = true → i ∈ depsAt l j → listed.getD i false = true
def AllRel2 (F : Fence) (n : Nat) (P : Program) (L : List Oper) (ops : Array Oper) (R : Array Bool → Act → World → Prop) : Nat → List Oper → Prop
  | _, [] => True
  | k, o :: rest =>
    (∀ listed a w, R listed a w → k < listed.size → (∀ j ∈ depsOf o, listed.getD j false = true) → listed.getD k false = false → Closed L listed → wpListIn F n P ops (relQ (R (listed.setIfInBounds k true))) [o] a w) ∧ AllRel2 F n P L ops R (k + 1) rest

theorem AllRel2.get {L : List Oper} {R : Array Bool → Act → World → Prop} : ∀ (l : List Oper) (k j : Nat) (o : Oper), AllRel2 F n P L ops R k l → l[j]? = some o →
    ∀ listed a w, R listed a w → k + j < listed.size → (∀ i ∈ depsOf o, listed.getD i false = true) → listed.getD (k + j) false = false → Closed L listed → wpListIn F n P ops (relQ (R (listed.setIfInBounds (k + j) true))) [o] a w
  | [], _, _, _, _, h => by simp at h
  | x :: l, k, 0, o, H, h => by
    simp only [List.getElem?_cons_zero, Option.some.injEq] at h
    subst h
    exact H.1
  | x :: l, k, j + 1, o, H, h => by
    have := AllRel2.get l (k + 1) j o H.2 (by simpa using h)
    rw [show k + 1 + j = k + (j + 1) by omega] at this
    exact this

theorem getD_set (listed : Array Bool) (i j : Nat) (h : (listed.setIfInBounds i true).getD j false = true) : j = i ∨ listed.getD j false = true := flag_set h
theorem getD_set' (listed : Array Bool) (i j : Nat) (h : listed.getD j false = true) : (listed.setIfInBounds i true).getD j false = true := by
  rw [Array.getD_eq_getD_getElem?] at h ⊢
  by_cases hij : i = j
  · subst hij
    rw [Array.getElem?_setIfInBounds]
    split
    · split
      · rfl
      · rename_i h1 h2; rw [Array.getElem?_eq_none (by omega)] at h; cases h
    · exact h
  · rw [Array.getElem?_setIfInBounds_ne hij]
    exact h
theorem Closed.set {L : List Oper} {listed : Array Bool} (h : Closed L listed) {i : Nat} (hd : ∀ j ∈ depsAt L i, listed.getD j false = true) : Closed L (listed.setIfInBounds i true) := by
  intro j k hj hk
  refine getD_set' _ _ _ ?_
  rcases getD_set _ _ _ hj with rfl | hj
  · exact hd k hk
  · exact h j k hj hk

theorem wpAnyIn_rel2 {l : List Oper} {Kb : Act → World → Prop} (R : Array Bool → Act → World → Prop) (hb : backB l = true) (hs : AllRel2 F n P l l.toArray R 0 l)
    (hend : ∀ listed a w, R listed a w → (∀ j, j < l.length → listed.getD j false = true) → Kb a w) :
    ∀ (fuel : Nat) (listed : Array Bool) (a : Act) (w : World), listed.size = l.length → listed.toList.countP (fun b => !b) ≤ fuel → R listed a w → Closed l listed →
      wpAnyIn F n P .any l.toArray (relQ Kb) fuel listed a w
  | 0, listed, a, w, hz, hc, hR, _ => by
    have hr : Region.ready .any l.toArray listed = [] := by
      rw [List.eq_nil_iff_forall_not_mem]
      intro i hi
      have h1 := (mem_ready.1 hi).1
      rw [Array.getD_eq_getD_getElem?] at h1
      have h2 : i < listed.size := by
        rcases Nat.lt_or_ge i listed.size with h | h
        · exact h
        · rw [Array.getElem?_eq_none h] at h1; cases h1
      rw [Array.getElem?_eq_getElem h2] at h1
      have h3 : 0 < listed.toList.countP (fun b => !b) := List.countP_pos_iff.2 ⟨listed[i], by simp, by simpa using h1⟩
      omega
    exact ⟨hr, rfl, hend _ _ _ hR (ready_done hb hz hr)⟩
  | fuel + 1, listed, a, w, hz, hc, hR, hcl => by
    refine ⟨fun hr => ⟨rfl, hend _ _ _ hR (ready_done hb hz hr)⟩, fun i hi => ?_⟩
    obtain ⟨h1, o, ho, hd⟩ := mem_ready.1 hi
    rw [Array.getD_eq_getD_getElem?] at h1
    have h2 : i < listed.size := by
      rcases Nat.lt_or_ge i listed.size with h | h
      · exact h
      · rw [Array.getElem?_eq_none h] at h1; cases h1
    rw [Array.getElem?_eq_getElem h2] at h1
    have hcn : (listed.setIfInBounds i true).toList.countP (fun b => !b) ≤ fuel := by
      have h3 : 0 < listed.toList.countP (fun b => !b) := List.countP_pos_iff.2 ⟨listed[i], by simp, by simpa using h1⟩
      have h4 : (listed.setIfInBounds i true).toList = listed.toList.set i true := by simp
      rw [h4, List.countP_set (by simpa using h2)]
      simp only [Option.getD_some] at h1
      have h6 : listed.toList[i]'(by simpa using h2) = false := by simpa using h1
      rw [h6]
      simp only [Bool.not_false, if_true, Bool.not_true, Bool.false_eq_true, if_false]
      omega
    have hdo : ∀ j ∈ depsOf o, listed.getD j false = true := fun j hj => by
      obtain ⟨e, he, rfl⟩ := List.mem_map.1 hj
      obtain ⟨he1, he2⟩ := List.mem_filter.1 he
      exact hd e (by simpa using he1) he2
    have hdc : ∀ j ∈ depsAt l i, listed.getD j false = true := fun j hj => by
      unfold depsAt at hj
      rw [show l[i]? = some o by simpa using ho] at hj
      exact hdo j hj
    have h5 := hs.get l 0 i o (by simpa using ho) listed a w hR (by omega) hdo (by rw [Nat.zero_add, Array.getD_eq_getD_getElem?, Array.getElem?_eq_getElem h2]; exact h1) hcl
    rw [Nat.zero_add] at h5
    unfold wpOpIn
    simp only [ho]
    simp only [wpListIn] at h5
    split at h5
    · rename_i hw
      rw [if_pos hw]
      exact Oper.wpIn_mono (fun a' w' hK => wpAnyIn_rel2 R hb hs hend fuel _ a' w' (by simpa using hz) hcn hK.2 (hcl.set hdc)) (oper_relQ h5)
    · rename_i hw
      rw [if_neg hw]
      exact ⟨h5.1, wpAnyIn_rel2 R hb hs hend fuel _ _ _ (by simpa using hz) hcn h5.2.2 (hcl.set hdc)⟩

theorem wpIn_region_rel2 {id : Nat} {l : List Oper} {a : Act} {w : World} {Q : Exit → Act → World → Prop} (R : Act → Array Bool → Act → World → Prop) (hm : P.follows .mixedOrders = true) (hb : backB l = true)
    (h0 : ∀ listed : Array Bool, (∀ j, listed.getD j false = false) → R a listed a w.drew) (hs : AllRel2 F n P l l.toArray (R a) 0 l)
    (hend : ∀ listed a' W, R a listed a' W → (∀ j, j < l.length → listed.getD j false = true) → Q .normal a' W) : (Code.region id l.toArray true).wpIn F n P Q a w := by
  have hrep : ∀ j, (Array.replicate l.toArray.size false).getD j false = false := fun j => by
    rw [Array.getD_eq_getD_getElem?, Array.getElem?_replicate]
    split <;> rfl
  refine wpIn_mono (Q := relQ fun a' W => Q .normal a' W) ?_ (fun e a' W h => h.1 ▸ h.2)
  refine wpIn_region_any hm ?_
  refine wpAnyIn_rel2 (R a) hb hs hend _ _ _ _ (by simp) ?_ (h0 _ hrep) (fun j i hj _ => ?_)
  · refine Nat.le_trans List.countP_le_length ?_
    simp
  · have := hrep j
    rw [hj] at this
    cases this
end

end Go.Proofs.Ytajionjffijffaa

/-
  Where an error of a script lies: the plain law (25.2).
-/
import Derived.Test.YtajionjffijffaaAwake
namespace Go.Proofs.Ytajionjffijffaa
open Go.RowKit Go.Sort

theorem pfold_at : ∀ (rs : List Nat) (st : PState), 0 ≤ st.2 → st.1 ≠ [] → (∀ p ∈ st.1, 1 ≤ p.2 ∧ p.2 ≤ st.2 + 1) →
    (∀ p ∈ (pfold st rs).1, 1 ≤ p.2 ∧ p.2 ≤ (pfold st rs).2 + 1) ∧ (pfold st rs).2 = st.2 + rs.length
  | [], st, _, _, h => ⟨h, by simp [pfold]⟩
  | r :: rs, st, h0, hne, h => by
    have e : pfold st (r :: rs) = pfold (pstep st r) rs := rfl
    have h2 : (pstep st r).2 = st.2 + 1 := by unfold pstep; split <;> rfl
    have hn : (pstep st r).1 ≠ [] := by unfold pstep; split <;> simp
    have hp : ∀ p ∈ (pstep st r).1, 1 ≤ p.2 ∧ p.2 ≤ (pstep st r).2 + 1 := by
      rw [h2]
      obtain ⟨ys, y, hy⟩ : ∃ ys y, st.1 = ys ++ [y] := by
        rcases List.eq_nil_or_concat st.1 with h | ⟨ys, y, h⟩
        · exact absurd h hne
        · exact ⟨ys, y, by simpa using h⟩
      unfold pstep
      split
      · intro p hp
        rcases List.mem_append.1 hp with hp | hp
        · have := h p hp; omega
        · obtain rfl := List.mem_singleton.1 hp
          simp only
          omega
      · rw [hy] at h ⊢
        rw [List.dropLast_concat, List.getLastD_concat]
        intro p hp
        rcases List.mem_append.1 hp with hp | hp
        · have := h p (List.mem_append_left _ hp); omega
        · obtain rfl := List.mem_singleton.1 hp
          have := h y (by simp)
          simp only
          omega
    obtain ⟨a, b⟩ := pfold_at rs (pstep st r) (by omega) hn hp
    rw [e]
    refine ⟨a, ?_⟩
    rw [b, h2, List.length_cons]
    push_cast
    omega
theorem partsS_at (s : ByteArray) : ∀ p ∈ partsS s, 1 ≤ p.2 ∧ p.2 ≤ ((runes s).length : Int) + 1 := by
  obtain ⟨a, b⟩ := pfold_at (runes s) pstart (by simp [pstart]) (by simp [pstart]) (by simp [pstart])
  have c : pstart.2 = 0 := rfl
  intro p hp
  unfold partsS at hp
  rcases List.mem_append.1 hp with hp | hp
  · have := a p hp; omega
  · obtain rfl := List.mem_singleton.1 hp
    simp only
    omega

theorem measLoop_at : ∀ (ys : List (ByteArray × Int)) (gs : List (Int × Int)) (a : Int), measLoop gs ys = .inl a → ∃ y ∈ ys, y.2 = a
  | [], gs, a, h => by rw [measLoop] at h; cases h
  | y :: ys, gs, a, h => by
    rw [measLoop] at h
    split at h
    · obtain ⟨z, hz, e⟩ := measLoop_at ys _ a h
      exact ⟨z, List.mem_cons_of_mem _ hz, e⟩
    · cases h
      exact ⟨y, List.mem_cons_self, rfl⟩
theorem actLoop_at (k : Nat) : ∀ (ys : List (ByteArray × Int)) (i : Nat) (x : Act5) (a : Int), actLoop k i x ys = .inl a → ∃ y ∈ ys, y.2 = a
  | [], i, x, a, h => by rw [actLoop] at h; cases h
  | y :: ys, i, x, a, h => by
    rw [actLoop] at h
    split at h
    · obtain ⟨z, hz, e⟩ := actLoop_at k ys _ _ a h
      exact ⟨z, List.mem_cons_of_mem _ hz, e⟩
    · cases h
      exact ⟨y, List.mem_cons_self, rfl⟩
theorem lineS_at (P : Int → Prop) (s : ScS) (w0 : ByteArray) (mid : List (ByteArray × Int)) (e : Int) (h1 : P 1) (he : P e) (hm : ∀ y ∈ mid, P y.2) (hne : (lineS s w0 mid e).2.2 ≠ 0) : P (lineS s w0 mid e).2.1 := by
  unfold lineS at hne ⊢
  split at hne
  · rename_i hg
    rw [if_pos hg]
    simp only at hne ⊢
    unfold measS at hne ⊢
    split at hne
    · rename_i h; rw [if_pos h]; exact h1
    · rename_i h
      rw [if_neg h]
      cases mid with
      | nil => exact he
      | cons y ys =>
        simp only at hne ⊢
        split at hne
        · rename_i hn
          rw [if_pos hn]
          cases hl : measLoop [] ys with
          | inl a =>
            obtain ⟨z, hz, e⟩ := measLoop_at ys [] a hl
            exact e ▸ hm z (List.mem_cons_of_mem _ hz)
          | inr gs =>
            rw [hl] at hne
            cases gs with
            | nil => exact he
            | cons g gs => exact absurd rfl hne
        · rename_i hn
          rw [if_neg hn]
          exact hm y List.mem_cons_self
  · rename_i hg
    rw [if_neg hg]
    simp only at hne ⊢
    unfold actS at hne ⊢
    cases hw : wordsS w0 with
    | none => exact h1
    | some k =>
      rw [hw] at hne
      simp only at hne ⊢
      cases hl : actLoop k 0 ⟨w0, 0, 0, 0, 0⟩ mid with
      | inl a =>
        obtain ⟨z, hz, e⟩ := actLoop_at k mid 0 _ a hl
        exact e ▸ hm z hz
      | inr x =>
        rw [hl] at hne
        unfold actTail at hne ⊢
        simp only at hne ⊢
        split at hne
        · rename_i hk; rw [if_pos hk]; exact he
        · exact absurd rfl hne

/-! ### line by line -/
def adv : Nat → List UInt8 → List UInt8
  | 0, l => l
  | k + 1, l => adv k (l.drop (lineLen l))
/-- the next k - 1 lines have ends -/
def okR : Nat → List UInt8 → Prop
  | 0, _ => True
  | k + 1, l => (k = 0 ∨ endedOf (l.take (lineLen l)) = true) ∧ okR k (l.drop (lineLen l))
def runesN (l : List UInt8) : Nat := (runes (textOf (l.take (lineLen l)))).length

theorem ended_lt : ∀ l : List UInt8, lineLen l < l.length → endedOf (l.take (lineLen l)) = true
  | [], h => by simp at h
  | b :: l, h => by
    rw [lineLen] at h ⊢
    by_cases hb : b = 10
    · rw [if_pos hb, hb]
      rfl
    · rw [if_neg hb] at h ⊢
      have ih := ended_lt l (by rw [List.length_cons] at h; omega)
      rw [Nat.add_comm, List.take_succ_cons]
      unfold endedOf Lib.hasSuffix at *
      rw [List.isSuffixOf_iff_suffix] at *
      exact ih.trans (List.suffix_cons _ _)

theorem near : ∀ (f : Nat) (l : List UInt8), l.length ≤ f → ∀ (s : ScS) (n : Int), 0 ≤ n →
    ((parseL s n (linesS l)).2.1 = 0 ∧ (parseL s n (linesS l)).2.2.1 = 0) ∨
    ((parseL s n (linesS l)).2.2.2 ≠ 0 ∧ ∃ k : Nat, (parseL s n (linesS l)).2.1 = n + 1 + k ∧ (l = [] → k = 0) ∧ k ≤ l.length ∧ okR k l ∧ 1 ≤ (parseL s n (linesS l)).2.2.1 ∧ (parseL s n (linesS l)).2.2.1 ≤ (runesN (adv k l) : Int) + 1) := by
  intro f
  induction f with
  | zero =>
    intro l hl s n hn
    obtain rfl : l = [] := List.length_eq_zero_iff.1 (by omega)
    rw [linesS_nil, parseL]
    unfold endS
    split
    · exact .inr ⟨by simp, 0, by simp, fun _ => rfl, by simp, trivial, by simp, by simp; omega⟩
    · split
      · exact .inl ⟨rfl, rfl⟩
      · exact .inl ⟨rfl, rfl⟩
  | succ f ih =>
    intro l hl s n hn
    by_cases hne : l = []
    · subst hne
      rw [linesS_nil, parseL]
      unfold endS
      split
      · exact .inr ⟨by simp, 0, by simp, fun _ => rfl, by simp, trivial, by simp, by simp; omega⟩
      · split
        · exact .inl ⟨rfl, rfl⟩
        · exact .inl ⟨rfl, rfl⟩
    · have hpos := lineLen_pos hne
      have hle := lineLen_le l
      have hd : (l.drop (lineLen l)).length ≤ f := by rw [List.length_drop]; omega
      rw [linesS_cons hne, parseL]
      have hrec : ∀ s' : ScS, ((parseL s' (n + 1) (linesS (l.drop (lineLen l)))).2.1 = 0 ∧ (parseL s' (n + 1) (linesS (l.drop (lineLen l)))).2.2.1 = 0) ∨
          ((parseL s' (n + 1) (linesS (l.drop (lineLen l)))).2.2.2 ≠ 0 ∧ ∃ k : Nat, (parseL s' (n + 1) (linesS (l.drop (lineLen l)))).2.1 = n + 1 + k ∧ (l = [] → k = 0) ∧ k ≤ l.length ∧ okR k l ∧ 1 ≤ (parseL s' (n + 1) (linesS (l.drop (lineLen l)))).2.2.1 ∧ (parseL s' (n + 1) (linesS (l.drop (lineLen l)))).2.2.1 ≤ (runesN (adv k l) : Int) + 1) := by
        intro s'
        rcases ih _ hd s' (n + 1) (by omega) with h | ⟨h0, k, h1, h2, h6, h3, h4, h5⟩
        · exact .inl h
        · refine .inr ⟨h0, k + 1, by rw [h1]; push_cast; omega, fun e => absurd e hne, by rw [List.length_drop] at h6; omega, ⟨?_, h3⟩, h4, h5⟩
          by_cases hk : k = 0
          · exact .inl hk
          · refine .inr (ended_lt l ?_)
            have : l.drop (lineLen l) ≠ [] := fun e => hk (h2 e)
            have := List.length_pos_iff.2 this
            rw [List.length_drop] at this
            omega
      split
      · exact hrec s
      · have hat := partsS_at (textOf (l.take (lineLen l)))
        obtain ⟨p0, pe, hps, hp0, hpe⟩ := parts_form (textOf (l.take (lineLen l)))
        rw [hps] at hat
        have hatE := hat pe (by simp)
        rw [hpe] at hatE
        simp only
        split
        · rename_i her
          refine .inr ⟨her, 0, by simp, fun _ => rfl, by simp, trivial, ?_⟩
          exact lineS_at (fun z => 1 ≤ z ∧ z ≤ ((runes (textOf (l.take (lineLen l)))).length : Int) + 1) _ _ _ _ ⟨by omega, by omega⟩ hatE (fun y hy => hat y (by simp [hy])) her
        · split
          · exact hrec _
          · exact .inr ⟨by simp, 0, by simp, fun _ => rfl, by simp, trivial, hatE⟩

end Go.Proofs.Ytajionjffijffaa

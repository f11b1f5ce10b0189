/-
  Plain laws of a text's notes: the lines of a text without its notes are the lines that are none; it is the same script.
-/
import Derived.Test.YtajionjffijffaaNotes
namespace Go.Proofs.Ytajionjffijffaa
open Go.RowKit Go.Sort

/-- a line: its end, if any, is its last byte -/
def Ln (x : List UInt8) : Prop := x ≠ [] ∧ lineLen x = x.length
/-- .. it has one -/
def En (x : List UInt8) : Prop := ∀ r, lineLen (x ++ r) = x.length
def wfL : List (List UInt8) → Prop
  | [] => True
  | x :: r => Ln x ∧ (r ≠ [] → En x) ∧ wfL r
theorem lineLen_take : ∀ l : List UInt8, lineLen (l.take (lineLen l)) = lineLen l
  | [] => rfl
  | b :: l => by
    rw [lineLen]
    split
    · rename_i h; rw [List.take_succ_cons, List.take_zero, lineLen, if_pos h]
    · rename_i h
      rw [Nat.add_comm, List.take_succ_cons, lineLen, if_neg h, lineLen_take l]
      omega
theorem lineLen_en : ∀ l : List UInt8, lineLen l < l.length → ∀ r, lineLen (l.take (lineLen l) ++ r) = lineLen l
  | [], h, _ => by simp [lineLen] at h
  | b :: l, h, r => by
    rw [lineLen] at h ⊢
    split
    · rename_i hb; rw [List.take_succ_cons, List.take_zero, List.singleton_append, lineLen, if_pos hb]
    · rename_i hb
      rw [if_neg hb, List.length_cons] at h
      rw [Nat.add_comm, List.take_succ_cons, List.cons_append, lineLen, if_neg hb, lineLen_en l (by omega)]
      omega
/-- .. or it has come to the text's end with one -/
theorem wf_linesF : ∀ (f : Nat) (l : List UInt8), l.length ≤ f → wfL (linesF f l)
  | 0, _, _ => trivial
  | f + 1, l, h => by
    rw [linesF]
    split
    · trivial
    · rename_i hl
      have h1 := lineLen_pos hl
      have h2 := lineLen_le l
      refine ⟨⟨fun e => ?_, ?_⟩, fun hr => ?_, wf_linesF f _ (by rw [List.length_drop]; omega)⟩
      · have := congrArg List.length e
        rw [List.length_take, List.length_nil] at this
        omega
      · rw [lineLen_take, List.length_take]; omega
      · intro r
        have : lineLen l < l.length := by
          rcases Nat.lt_or_ge (lineLen l) l.length with h | h
          · exact h
          · exfalso
            apply hr
            rw [List.drop_of_length_le h]
            cases f <;> simp [linesF]
        rw [lineLen_en l this, List.length_take]
        omega
theorem wf_linesS (l : List UInt8) : wfL (linesS l) := wf_linesF _ _ (Nat.le_refl _)
theorem wf_filter (p : List UInt8 → Bool) : ∀ ls, wfL ls → wfL (ls.filter p)
  | [], _ => trivial
  | x :: r, ⟨h1, h2, h3⟩ => by
    rw [List.filter_cons]
    split
    · exact ⟨h1, fun hr => h2 (fun e => hr (by rw [e]; rfl)), wf_filter p r h3⟩
    · exact wf_filter p r h3
theorem lines_flatten : ∀ ls, wfL ls → linesS ls.flatten = ls
  | [], _ => rfl
  | x :: r, ⟨⟨h1, h1'⟩, h2, h3⟩ => by
    have hll : lineLen (x ++ r.flatten) = x.length := by
      by_cases hr : r = []
      · subst hr; simpa using h1'
      · exact h2 hr _
    rw [List.flatten_cons, linesS_cons (by simp [h1]), hll, List.take_left, List.drop_left, lines_flatten r h3]
def keepL (ls : List (List UInt8)) : List (List UInt8) := ls.filter fun x => !isN x
theorem lines_notes (l : List UInt8) : linesS (notesB (linesS l)) = keepL (linesS l) := lines_flatten _ (wf_filter _ _ (wf_linesS l))
theorem keep_keep (ls : List (List UInt8)) : keepL (keepL ls) = keepL ls := by
  unfold keepL
  rw [List.filter_filter]
  congr 1
  funext x
  rw [Bool.and_self]
theorem notesC_keep (ls : List (List UInt8)) : notesC (keepL ls) = 0 := by
  unfold notesC keepL
  rw [List.filter_filter]
  have : (fun a => isN a && !isN a) = fun _ : List UInt8 => false := by funext a; cases isN a <;> rfl
  rw [this]
  simp
theorem notes_twice (l : List UInt8) : notesB (linesS (notesB (linesS l))) = notesB (linesS l) ∧ notesC (linesS (notesB (linesS l))) = 0 := by
  rw [lines_notes]
  exact ⟨by show (keepL (keepL (linesS l))).flatten = _; rw [keep_keep]; rfl, notesC_keep _⟩
theorem notes_none (l : List UInt8) (h : notesC (linesS l) = 0) : notesB (linesS l) = l := by
  have h1 : (linesS l).filter isN = [] := List.length_eq_zero_iff.1 h
  have h2 : (linesS l).filter (fun x => !isN x) = linesS l := by
    rw [List.filter_eq_self]
    intro x hx
    rw [List.filter_eq_nil_iff] at h1
    simpa using h1 x hx
  unfold notesB
  rw [h2, linesS_flatten]
theorem notesB_le (l : List UInt8) : (notesB (linesS l)).length ≤ l.length := by
  have := filter_flatten_len (fun x => !isN x) (linesS l)
  rw [linesS_flatten] at this
  exact this
/-- the same script, and the same error -/
theorem parseL_keep : ∀ (ls : List (List UInt8)) (s : ScS) (n m : Int), (parseL s n ls).1 = (parseL s m (keepL ls)).1 ∧ (parseL s n ls).2.2.2 = (parseL s m (keepL ls)).2.2.2
  | [], s, n, m => by
    show (endS s n).1 = (endS s m).1 ∧ (endS s n).2.2.2 = (endS s m).2.2.2
    unfold endS
    split
    · exact ⟨rfl, rfl⟩
    · split <;> exact ⟨rfl, rfl⟩
  | x :: ls, s, n, m => by
    by_cases hx : noteS (textOf x) = true
    · have hk : keepL (x :: ls) = keepL ls := by
        unfold keepL
        rw [List.filter_cons, if_neg (by unfold isN; rw [hx]; simp)]
      rw [hk, parseL, if_pos hx]
      exact parseL_keep ls s _ _
    · have hk : keepL (x :: ls) = x :: keepL ls := by
        unfold keepL
        rw [List.filter_cons, if_pos (by unfold isN; simpa using hx)]
      rw [hk, parseL, if_neg hx, parseL, if_neg hx]
      simp only
      split
      · exact ⟨rfl, rfl⟩
      · split
        · exact parseL_keep ls _ _ _
        · exact ⟨rfl, rfl⟩
theorem parse_notes (t : ByteArray) (ht : t.size ≤ 8192) : (parseS (ofL (notesB (linesS t.data.toList)))).1 = (parseS t).1 ∧ (parseS (ofL (notesB (linesS t.data.toList)))).2.2.2 = (parseS t).2.2.2 := by
  have h1 := notesB_le t.data.toList
  rw [size_list] at h1
  unfold parseS
  rw [if_neg (by rw [ofL_size]; omega), if_neg (by omega), ofL_list, lines_notes]
  have := parseL_keep (linesS t.data.toList) noSc 0 0
  exact ⟨this.1.symm, this.2.symm⟩

end Go.Proofs.Ytajionjffijffaa

/-
  strings.Lines: a text's lines, one by one; the rest of the text lies in a captured cell.
-/
import Derived.Deep.RegionLaw
import Derived.BigRegion
import Derived.Test.YtajionjffijffaaCap
import Derived.Test.YtajionjffijffaaMeas
namespace Go.Proofs.Ytajionjffijffaa
open Go.RowKit Go.Sort
attribute [local go_sem] Oper.semAt_some

/-- how long the first line is, its end with it -/
def lineLen : List UInt8 → Nat
  | [] => 0
  | b :: l => if b = 10 then 1 else 1 + lineLen l
def linesF : Nat → List UInt8 → List (List UInt8)
  | 0, _ => []
  | f + 1, l => if l = [] then [] else l.take (lineLen l) :: linesF f (l.drop (lineLen l))
def linesS (l : List UInt8) : List (List UInt8) := linesF l.length l
theorem lineLen_pos {l : List UInt8} (h : l ≠ []) : 1 ≤ lineLen l := by
  cases l with
  | nil => exact absurd rfl h
  | cons b l => rw [lineLen]; split <;> omega
theorem lineLen_le : ∀ l : List UInt8, lineLen l ≤ l.length
  | [] => by simp [lineLen]
  | b :: l => by have := lineLen_le l; rw [lineLen, List.length_cons]; split <;> omega
theorem index_nl : ∀ l : List UInt8, Lib.indexByte l 10 = if (10 : UInt8) ∈ l then (lineLen l : Int) - 1 else -1
  | [] => by simp [Lib.indexByte]
  | b :: l => by
    have ih := index_nl l
    unfold Lib.indexByte
    rw [lineLen]
    by_cases hb : b = 10
    · subst hb
      simp
    · have hb2 : (b == 10) = false := by simpa using hb
      have hb3 : ¬ (10 : UInt8) = b := fun e => hb e.symm
      simp only [hb2, hb, Bool.false_eq_true, if_false, ih, List.mem_cons, hb3, false_or]
      by_cases hm : (10 : UInt8) ∈ l
      · have hl : 1 ≤ lineLen l := lineLen_pos (fun e => by rw [e] at hm; cases hm)
        have h1 : ((lineLen l : Int) - 1 == -1) = false := by rw [beq_eq_false_iff_ne]; omega
        simp only [hm, if_true, h1, Bool.false_eq_true, if_false]
        omega
      · simp [hm]
theorem lineLen_none : ∀ l : List UInt8, (10 : UInt8) ∉ l → lineLen l = l.length
  | [], _ => rfl
  | b :: l, h => by
    rw [lineLen, if_neg (fun e => h (by simp [e])), lineLen_none l (fun e => h (by simp [e])), List.length_cons]
    omega
theorem linesF_more : ∀ (f f' : Nat) (l : List UInt8), l.length ≤ f → l.length ≤ f' → linesF f l = linesF f' l
  | 0, 0, _, _, _ => rfl
  | 0, f' + 1, l, h, _ => by rw [linesF, linesF, if_pos (List.length_eq_zero_iff.1 (by omega))]
  | f + 1, 0, l, _, h => by rw [linesF, linesF, if_pos (List.length_eq_zero_iff.1 (by omega))]
  | f + 1, f' + 1, l, h, h' => by
    rw [linesF, linesF]
    split
    · rfl
    · rename_i hne
      have := lineLen_pos hne
      rw [linesF_more f f' (l.drop (lineLen l)) (by rw [List.length_drop]; omega) (by rw [List.length_drop]; omega)]
theorem linesS_nil : linesS [] = [] := rfl
theorem linesS_cons {l : List UInt8} (h : l ≠ []) : linesS l = l.take (lineLen l) :: linesS (l.drop (lineLen l)) := by
  unfold linesS
  have h1 := lineLen_pos h
  cases hl : l.length with
  | zero => exact absurd (List.length_eq_zero_iff.1 hl) h
  | succ n =>
    rw [linesF, if_neg h]
    rw [linesF_more n (l.drop (lineLen l)).length _ (by rw [List.length_drop]; omega) (Nat.le_refl _)]

@[go_sem] theorem eg_lines1 (args : Array Value) (w : World) : (callFunc 37 args).run Try.prog w = .ok (.enter 37 args) w := enters_of Try.func37 (by kernel_rfl) rfl args w
theorem Lines_at (s : ByteArray) (w : World) :
    Calls Try.prog 20 #[.string s] w fun e w' => e = .returned (.func (.func 37) #[] #[.pointer (some ⟨w.heap.size, 0, none⟩)]) ∧ w' = w.alloc (.cells #[.string s] 9) := by
  go_enter Try.func20, Try.ntmps20
  go_wp2_with fail
  go_ret
  exact ⟨rfl, rfl⟩

def restLen (w : World) (b : Nat) : Nat := match w.cell? ⟨b, 0, none⟩ with
  | some (.string s) => s.size
  | _ => 0

theorem Lines1_cap (t : ByteArray) (ht : t.size < 4611686018427387900) (b0 : Nat) : SeqCap Try.prog 37 #[.pointer (some ⟨b0, 0, none⟩)] (fun x : List UInt8 => #[.string (ofL x)]) (fun xs => xs = linesS t.data.toList) b0
    (fun W => W.heap[b0]? = some (.cells #[.string t] 9 (0, 0))) := by
  intro l J Jx W hK hb hJ hJx hY h0
  have hK0 : W.heap[b0]? = some (.cells #[.string (ofL t.data.toList)] 9 (0, 0)) := by rw [ofL_self]; exact hK
  obtain ⟨L, hL⟩ : ∃ L, t.data.toList = L := ⟨_, rfl⟩
  have hLl : L.length < 4611686018427387900 := by rw [← hL, size_list]; exact ht
  rw [hL] at hY hK0 ⊢
  clear hL hK
  refine (callsIn_wide (n := 3)).1 ?_
  refine callsIn_of_wp Try.func37 rfl trivial ?_ rfl
  simp only [Try.ntmps37, List.size_toArray, List.length_cons, List.length_nil, Nat.reduceAdd, Nat.reduceSub, Array.replicate_succ, Array.replicate_zero, List.push_toArray, List.append_toArray, List.nil_append, List.cons_append]
  gi_wp2
  gi_loopw [5] (fun _ wr => ∃ (pre : List (List UInt8)) (rest : List UInt8), pre ++ linesS rest = linesS L ∧ wr.heap[b0]? = some (.cells #[.string (ofL rest)] 9 (0, 0)) ∧ J pre wr ∧ rest.length ≤ L.length)
    (fun _ wr => restLen wr b0)
  case atStart => exact ⟨[], L, rfl, hK0, h0, Nat.le_refl _⟩
  case round =>
    obtain ⟨pre, rest, hpre, hc, hJp, hrl⟩ := hrel
    have hc0 : wr.cell? ⟨b0, 0, none⟩ = some (.string (ofL rest)) := by rw [cell_of_row wr b0 0 _ _ _ hc]; rfl
    have hcf := frozen_of_row hc 0
    have hbl := (Array.getElem?_eq_some_iff.1 hc).1
    haveI : Old b0 wr := ⟨hbl⟩
    by_cases hne : rest = []
    · subst hne
      have hz : (ofL ([] : List UInt8)).size = 0 := rfl
      gi_wp2
      go_end0
      refine ⟨⟨_, rfl⟩, .inl ⟨_, rfl, ?_⟩⟩
      rw [← hpre, linesS_nil, List.append_nil]
      exact hJp
    · have cI : Pure Try.prog 38 #[.string (ofL rest), .int .u8 10] (.int .i64 (if (10 : UInt8) ∈ rest then (lineLen rest : Int) - 1 else -1)) := pure_of_same fun W => by
        have h := Try.strings_IndexByte (ofL rest) 10 W
        rw [ofL_list, show (10 : Int).toNat.toUInt8 = 10 from rfl, index_nl] at h
        exact h
      have hl1 := lineLen_pos hne
      have hl2 := lineLen_le rest
      have hsz : (ofL rest).size = rest.length := ofL_size rest
      have hszp : 0 < ((ofL rest).size : Int) := by omega
      have hcons := linesS_cons hne
      by_cases hm : (10 : UInt8) ∈ rest
      · rw [if_pos hm] at cI
        have e1 : (ofL rest).extract 0 (lineLen rest) = ofL (rest.take (lineLen rest)) := by
          refine ba_ext ?_
          rw [ofL_list, Lib.extract_data, ofL_list]
          simp
        have e2 : (ofL rest).extract (lineLen rest) (ofL rest).size = ofL (rest.drop (lineLen rest)) := by
          refine ba_ext ?_
          rw [ofL_list, Lib.extract_data, ofL_list, ofL_size, List.take_of_length_le (by rw [List.length_drop]; omega)]
        obtain ⟨N, hN⟩ : ∃ N, lineLen rest = N := ⟨_, rfl⟩
        rw [hN] at cI e1 e2 hl1 hl2 hcons
        have hN62 : N < 4611686018427387904 := by omega
        have hs1 : ∀ W : World, (Instr.slice 9 (.string (ofL rest)) none (some (.int .i64 (N : Int))) none).run Try.prog W = .ok (.string (ofL (rest.take N))) W := fun W => by
          rw [← e1]; simp [go_sem, hsz]
          intro h
          omega
        have hs2 : ∀ W : World, (Instr.slice 9 (.string (ofL rest)) (some (.int .i64 (N : Int))) none none).run Try.prog W = .ok (.string (ofL (rest.drop N))) W := fun W => by
          rw [← e2]; simp [go_sem, hsz]
          intro h
          omega
        gi_wp2_with (refine ⟨trivial, ?_⟩; gi_at_call 38; refine (callsIn_wide.2 (cI.at _)).mono ?_; rintro e w' ⟨rfl, g1, rfl⟩)
        refine wpIn_wide.2 ?_
        refine wp_region_gr_tail2 9 (by kernel_rfl) (by kernel_rfl) ?_
        simp only [List.take_succ_cons, List.take_zero, List.drop_succ_cons, List.drop_zero]
        repeat (go_big_quiet_step (fail))
        refine wpQuiet_nil ?_
        rintro _ ⟨g5, rfl⟩
        go_wp2_with fail
        have hof : Off (fun k => k = b0) wr (gr (wr.setCell ⟨b0, 0, none⟩ (.string (ofL (rest.drop N)))) g5) := Off.trans (Off.setCell (X := fun k => k = b0) (Off.refl _ _) (p := ⟨b0, 0, none⟩) rfl _) (Off.of_below (below_gr _ _))
        have hc2 : (gr (wr.setCell ⟨b0, 0, none⟩ (.string (ofL (rest.drop N)))) g5).heap[b0]? = some (.cells #[.string (ofL (rest.drop N))] 9 (0, 0)) := (gr_heap _ _ (by simp; exact hbl)).trans (heap_set_cells hc _)
        have hJ2 := hJ _ _ _ hJp hof
        generalize gr (wr.setCell ⟨b0, 0, none⟩ (.string (ofL (rest.drop N)))) g5 = V2 at hof hc2 hJ2 ⊢
        have hpx : pre ++ [(rest.take N)] <+: linesS L := by rw [← hpre, hcons]; exact ⟨linesS (rest.drop N), by simp⟩
        obtain ⟨fn, tmps, assign, body, hy, hYR⟩ := hY 2 pre (rest.take N) V2 hJ2 (Array.getElem?_eq_some_iff.1 hc2).1 ⟨_, rfl, hpx⟩
        clear hof hc0 hcf hJp
        gi_wp2
        refine hYR.mono ?_
        rintro e W3 (⟨rfl, hJ3, hz3, hk3⟩ | ⟨rfl, hJx3⟩)
        · have hc3 := hk3.trans hc2
          have hm0 : restLen wr b0 = rest.length := by simp [restLen, cell_of_row wr b0 0 _ _ _ hc, ofL_size]
          have hm3 : restLen W3 b0 = ((rest.drop N)).length := by simp [restLen, cell_of_row W3 b0 0 _ _ _ hc3, ofL_size]
          gi_wp2
          go_roundw
          case rel => exact ⟨pre ++ [(rest.take N)], (rest.drop N), by rw [← hpre, hcons]; simp, hc3, hJ3, by rw [List.length_drop]; omega⟩
          case measure => rw [hm0, hm3]; rw [List.length_drop]; omega
        · gi_wp2
          refine bodyPost_ret (results_none rfl _ _ _) rfl ?_
          exact ⟨⟨_, rfl⟩, .inr ⟨_, _, rfl, hpx, hJx3⟩⟩
      · rw [if_neg hm] at cI
        have hall := lineLen_none rest hm
        rw [hall, List.take_length, List.drop_length] at hcons
        gi_wp2_with (refine ⟨trivial, ?_⟩; gi_at_call 38; refine (callsIn_wide.2 (cI.at _)).mono ?_; rintro e w' ⟨rfl, g1, rfl⟩)
        have e0 : (⟨#[]⟩ : ByteArray) = ofL [] := rfl
        rw [e0]
        have hof : Off (fun k => k = b0) wr (gr (wr.setCell ⟨b0, 0, none⟩ (.string (ofL ([] : List UInt8)))) g1) := Off.trans (Off.setCell (X := fun k => k = b0) (Off.refl _ _) (p := ⟨b0, 0, none⟩) rfl _) (Off.of_below (below_gr _ _))
        have hc2 : (gr (wr.setCell ⟨b0, 0, none⟩ (.string (ofL ([] : List UInt8)))) g1).heap[b0]? = some (.cells #[.string (ofL ([] : List UInt8))] 9 (0, 0)) := (gr_heap _ _ (by simp; exact hbl)).trans (heap_set_cells hc _)
        have hJ2 := hJ _ _ _ hJp hof
        generalize gr (wr.setCell ⟨b0, 0, none⟩ (.string (ofL ([] : List UInt8)))) g1 = V2 at hof hc2 hJ2 ⊢
        have hpx : pre ++ [rest] <+: linesS L := by rw [← hpre, hcons]; exact ⟨linesS ([] : List UInt8), by simp⟩
        obtain ⟨fn, tmps, assign, body, hy, hYR⟩ := hY 2 pre rest V2 hJ2 (Array.getElem?_eq_some_iff.1 hc2).1 ⟨_, rfl, hpx⟩
        clear hof hc0 hcf hJp
        rw [hy, Oper.uponIn_round]
        refine ⟨fun h => (by simp [Fence.wide] at h), ?_⟩
        refine hYR.mono ?_
        rintro e W3 (⟨rfl, hJ3, hz3, hk3⟩ | ⟨rfl, hJx3⟩)
        · have hc3 := hk3.trans hc2
          have hm0 : restLen wr b0 = rest.length := by simp [restLen, cell_of_row wr b0 0 _ _ _ hc, ofL_size]
          have hm3 : restLen W3 b0 = (([] : List UInt8)).length := by simp [restLen, cell_of_row W3 b0 0 _ _ _ hc3, ofL_size]
          gi_wp2
          go_roundw
          case rel => exact ⟨pre ++ [rest], ([] : List UInt8), by rw [← hpre, hcons]; simp, hc3, hJ3, by simp⟩
          case measure => rw [hm0, hm3]; simp; exact List.length_pos_iff.2 hne
        · gi_wp2
          refine bodyPost_ret (results_none rfl _ _ _) rfl ?_
          exact ⟨⟨_, rfl⟩, .inr ⟨_, _, rfl, hpx, hJx3⟩⟩

end Go.Proofs.Ytajionjffijffaa

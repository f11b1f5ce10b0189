/-
  script.Notes: a text without its notes, and how many there were.
-/
import Derived.Test.YtajionjffijffaaBld
import Derived.Test.YtajionjffijffaaParse
namespace Go.Proofs.Ytajionjffijffaa
open Go.RowKit Go.Sort
attribute [local go_sem] Oper.semAt_some

def isN (x : List UInt8) : Bool := noteS (textOf x)
def notesB (ls : List (List UInt8)) : List UInt8 := (ls.filter fun x => !isN x).flatten
def notesC (ls : List (List UInt8)) : Nat := (ls.filter isN).length
theorem notesB_yes (ls : List (List UInt8)) (x : List UInt8) (h : isN x = true) : notesB (ls ++ [x]) = notesB ls := by simp [notesB, List.filter_append, h]
theorem notesB_no (ls : List (List UInt8)) (x : List UInt8) (h : isN x = false) : notesB (ls ++ [x]) = notesB ls ++ x := by simp [notesB, List.filter_append, h]
theorem notesC_yes (ls : List (List UInt8)) (x : List UInt8) (h : isN x = true) : notesC (ls ++ [x]) = notesC ls + 1 := by simp [notesC, List.filter_append, h]
theorem notesC_no (ls : List (List UInt8)) (x : List UInt8) (h : isN x = false) : notesC (ls ++ [x]) = notesC ls := by simp [notesC, List.filter_append, h]
theorem linesF_flatten : ∀ (f : Nat) (l : List UInt8), l.length ≤ f → (linesF f l).flatten = l
  | 0, l, h => by rw [List.length_eq_zero_iff.1 (Nat.le_zero.1 h)]; rfl
  | f + 1, l, h => by
    rw [linesF]
    split
    · rename_i hl; rw [hl]; rfl
    · rename_i hl
      have := lineLen_pos hl
      rw [List.flatten_cons, linesF_flatten f _ (by rw [List.length_drop]; omega), List.take_append_drop]
theorem linesS_flatten (l : List UInt8) : (linesS l).flatten = l := linesF_flatten _ _ (Nat.le_refl _)
theorem filter_flatten_len (p : List UInt8 → Bool) : ∀ ls : List (List UInt8), ((ls.filter p).flatten).length ≤ ls.flatten.length
  | [] => by simp
  | x :: ls => by
    have := filter_flatten_len p ls
    rw [List.filter_cons]
    split <;> simp only [List.flatten_cons, List.length_append] <;> omega
theorem notesB_len (l : List UInt8) (pre : List (List UInt8)) (rest : List (List UInt8)) (h : pre ++ rest = linesS l) : (notesB pre).length + rest.flatten.length ≤ l.length := by
  have h1 := filter_flatten_len (fun x => !isN x) pre
  have h2 := congrArg (fun z : List (List UInt8) => z.flatten.length) h
  simp only [List.flatten_append, List.length_append, linesS_flatten] at h2
  unfold notesB
  omega

/-- what lies in memory between two lines -/
structure NI (w : World) (pre : List (List UInt8)) (W : World) : Prop where
  bel : Below w.heap.size w W
  bld : Bld (w.heap.size + 5) w.heap.size (Lib.byteCells (notesB pre)) W
  hn : W.heap[w.heap.size + 1]? = some (.cells #[.int .i64 ((notesC pre : Nat) : Int)] 3 (0, 0))
theorem NI.off {w W W' : World} {pre : List (List UInt8)} (h : NI w pre W) {X : Nat → Prop} (ho : Off X W W') (hX : ∀ k, X k → w.heap.size + 2 ≤ k ∧ k < w.heap.size + 5) : NI w pre W' := by
  have l1 := (Array.getElem?_eq_some_iff.1 h.hn).1
  have hx : ∀ k, k < w.heap.size + 2 → W'.heap[k]? = W.heap[k]? := fun k hk => ho.same k (fun e => by have := hX k e; omega) (by omega)
  exact ⟨h.bel.trans ⟨ho.base.os, ho.base.tape, ho.base.output, ho.size, fun k hk => hx k (by omega)⟩, h.bld.off ho (fun e => by have := hX _ e; omega) (fun k hk e => by have := hX k e; omega), (hx _ (by omega)).trans h.hn⟩

/-- .. behind the loop -/
structure NE (w : World) (D : Nat) (T : List UInt8) (N : Nat) (W : World) : Prop where
  bel : Below w.heap.size w W
  isF : Lib.IsBuilderF 78 5 w.heap.size w.heap.size (Lib.byteCells T) W
  hn : W.heap[w.heap.size + 1]? = some (.cells #[.int .i64 (N : Int)] 3 (0, 0))
  hK : W.heap[D]? = some (.deferred (some []))
theorem NE.cell {w W : World} {D N : Nat} {T : List UInt8} (h : NE w D T N W) : W.cell? ⟨w.heap.size + 1, 0, none⟩ = some (.int .i64 (N : Int)) := by rw [cell_of_row W _ 0 _ _ _ h.hn]; rfl
theorem NE.drew {w W : World} {D N : Nat} {T : List UInt8} (h : NE w D T N W) : NE w D T N W.drew := ⟨h.bel.drew, h.isF, h.hn, h.hK⟩

set_option maxRecDepth 20000 in
set_option maxHeartbeats 4000000 in
theorem Notes_any (t : ByteArray) (ht : t.size ≤ 1000000) : Pure Try.prog 13 #[.string t] (.tuple #[.string (ofL (notesB (linesS t.data.toList))), .int .i64 ((notesC (linesS t.data.toList) : Nat) : Int)]) := by
  intro w
  have hcap := Lines1_cap t (by omega) (w.heap.size + 1 + 1)
  obtain ⟨L, hL⟩ : ∃ L, t.data.toList = L := ⟨_, rfl⟩
  have hLl : L.length ≤ 1000000 := by rw [← hL, size_list]; exact ht
  rw [hL] at hcap ⊢
  clear hL
  refine (callsIn_wide (n := 3)).1 ?_
  refine callsIn_of_wp_marks Try.func13 rfl trivial ?_ rfl
  simp only [Try.ntmps13, List.size_toArray, List.length_cons, List.length_nil, Nat.reduceAdd, Nat.reduceSub, Array.replicate_succ, Array.replicate_zero, List.push_toArray, List.append_toArray, List.nil_append, List.cons_append]
  refine wpIn_wide.2 ?_
  go_wp2_with (go_at_call 20; refine (Lines_at _ _).mono ?_; rintro e w' ⟨rfl, rfl⟩)
  have hN0 : NI w [] (((w.alloc (.cells #[.pointer none, .slice none 0 0] 78)).alloc (.cells #[.int .i64 0] 3)).alloc (.cells #[.string t] 9)) := by
    have hh := heap_at w [.cells #[.pointer none, .slice none 0 0] 78, .cells #[.int .i64 0] 3, .cells #[.string t] 9]
    exact ⟨by (repeat' (first | (with_reducible exact Below.refl _ _) | (with_reducible refine belowGrU ?_ _) | (with_reducible refine belowAlloc ?_ _) | (with_reducible refine Below.setCell ?_ ?_ _) | (with_reducible refine Below.drew ?_) | (simp [go_sem]; done) | (simp [go_sem]; omega))), ⟨_, _, .inl rfl, hh 0, World.ownsRowF_nil _ _ _ _⟩, hh 1⟩
  have hb0 : (((w.alloc (.cells #[.pointer none, .slice none 0 0] 78)).alloc (.cells #[.int .i64 0] 3)).alloc (.cells #[.string t] 9)).heap[w.heap.size + 1 + 1]? = some (.cells #[.string t] 9 (0, 0)) :=
    heap_at w [.cells #[.pointer none, .slice none 0 0] 78, .cells #[.int .i64 0] 3, .cells #[.string t] 9] 2
  have hz0 : (((w.alloc (.cells #[.pointer none, .slice none 0 0] 78)).alloc (.cells #[.int .i64 0] 3)).alloc (.cells #[.string t] 9)).heap.size = w.heap.size + 3 := by simp
  generalize (((w.alloc (.cells #[.pointer none, .slice none 0 0] 78)).alloc (.cells #[.int .i64 0] 3)).alloc (.cells #[.string t] 9)) = W0 at hN0 hb0 hz0 ⊢
  refine (wpIn_wide (n := 3)).1 ?_
  have hI : Abides (fun k => k = w.heap.size + 1 + 1 ∨ k = W0.heap.size ∨ k = W0.heap.size + 1) (fun (pre : List (List UInt8)) W => NI w pre W) := by
    rintro pre A B h ho
    exact h.off ho (fun k hk => by omega)
  have hIx : ∀ c : Code, Abides (fun k => k = w.heap.size + 1 + 1 ∨ k = W0.heap.size ∨ k = W0.heap.size + 1) (fun (_ : List (List UInt8)) (_ : World) => False) := fun c => by
    rintro pre A B h ho
    exact h
  apply wpIn_range_cap (w := W0) (gf := 37) (lb := #[.pointer (some ⟨w.heap.size + 1 + 1, 0, none⟩)]) rfl eg_lines1 hcap (by omega)
    (fun W ho => (ho.same _ (by omega) (by omega)).trans hb0) (fun _ => rfl) _ _ hI hIx hN0
  case hassign =>
    intro l m x W K hK
    gi_wp2
    exact hK
  case hbody =>
    rintro l m pre x W hP hWs ⟨xs, rfl, rest', hpr⟩
    have hlen : (notesB pre).length + x.length ≤ L.length := by
      have := notesB_len L pre ([x] ++ rest') (by rw [← hpr]; simp)
      simp only [List.flatten_append, List.length_append, List.flatten_cons, List.flatten_nil, List.append_nil] at this
      omega
    have hcN : W.cell? ⟨w.heap.size + 1, 0, none⟩ = some (.int .i64 ((notesC pre : Nat) : Int)) := by rw [cell_of_row W _ 0 _ _ _ hP.hn]; rfl
    have hcF := frozen_of_row hP.hn 0
    have hl1 := (Array.getElem?_eq_some_iff.1 hP.hn).1
    haveI : Old (w.heap.size + 1) W := ⟨hl1⟩
    have hcl := linesS_len L
    have hcc : notesC pre ≤ 1000000 := by
      have h1 := congrArg List.length hpr
      simp only [List.length_append, List.length_cons, List.length_nil] at h1
      have h2 : notesC pre ≤ pre.length := List.length_filter_le _ _
      omega
    have cT : Pure Try.prog 28 #[.string (ofL x), .string ⟨#[10]⟩] (.string (textOf x)) := pure_of_same fun W => by
      have h := Try.strings_TrimSuffix (ofL x) ⟨#[10]⟩ W (by rw [ofL_size]; omega)
      rw [ofL_list] at h
      exact h
    have cN := isNote_any (textOf x)
    cases hnt : isN x with
    | true =>
      rw [show noteS (textOf x) = true from hnt] at cN
      have h1 := notesB_yes pre x hnt
      have h2 := notesC_yes pre x hnt
      obtain ⟨N, hN⟩ : ∃ N, notesC pre = N := ⟨_, rfl⟩
      rw [hN] at hcN hcc h2
      clear hI hIx hcap
      gi_wp2_with (first
        | (refine ⟨trivial, fun h => (by simp [Fence.wide] at h), ?_⟩; refine (CallsIn.inRound l (callsIn_wide.2 (cT.at _))).mono ?_; rintro e w' ⟨rfl, g1, rfl⟩)
        | (refine ⟨trivial, fun h => (by simp [Fence.wide] at h), ?_⟩; refine (CallsIn.inRound l (callsIn_wide.2 (cN.at _))).mono ?_; rintro e w' ⟨rfl, g2, rfl⟩))
      have hoff : Off (fun k => k = w.heap.size + 1) W (gr (W.setCell ⟨w.heap.size + 1, 0, none⟩ (.int .i64 ((N : Int) + 1))) (g1.seq g2)) := Off.trans (Off.setCell (X := fun k => k = w.heap.size + 1) (Off.refl _ _) (p := ⟨w.heap.size + 1, 0, none⟩) rfl _) (Off.of_below (below_gr _ _))
      refine ⟨⟨hoff.size, fun k hk => hoff.same k (by omega) (by omega)⟩, ?_⟩
      refine ⟨hP.bel.trans ⟨hoff.base.os, hoff.base.tape, hoff.base.output, hoff.size, fun k hk => hoff.same k (by omega) (by omega)⟩, ?_, ?_⟩
      · rw [h1]
        exact hP.bld.off hoff (by omega) (fun k hk => by omega)
      · rw [h2, gr_heap _ _ (by simp; omega)]
        have hn := hP.hn
        have := heap_set_cells hn (i := 0) (.int .i64 ((N : Int) + 1))
        simpa using this
    | false =>
      rw [show noteS (textOf x) = false from hnt] at cN
      have h1 := notesB_no pre x hnt
      have h2 := notesC_no pre x hnt
      clear hI hIx hcap
      gi_wp2_with (first
        | (refine ⟨trivial, fun h => (by simp [Fence.wide] at h), ?_⟩; refine (CallsIn.inRound l (callsIn_wide.2 (cT.at _))).mono ?_; rintro e w' ⟨rfl, g1, rfl⟩)
        | (refine ⟨trivial, fun h => (by simp [Fence.wide] at h), ?_⟩; refine (CallsIn.inRound l (callsIn_wide.2 (cN.at _))).mono ?_; rintro e w' ⟨rfl, g2, rfl⟩))
      have hB2 := hP.bld.grow (below_gr W (g1.seq g2))
      refine ⟨trivial, fun h => (by simp [Fence.wide] at h), ?_⟩
      refine (CallsIn.inRound l (callsIn_wide.2 (WriteString_b (w.heap.size + 5) w.heap.size _ (ofL x) _ hB2 (by rw [Lib.byteCells_length, ofL_size]; omega) (by rw [gr_size]; omega)))).mono ?_
      rintro e W2 ⟨rfl, hU, hW⟩
      gi_wp2_with fail
      have hoff : Off (fun k => k = w.heap.size ∨ w.heap.size + 5 ≤ k) W W2 := Off.trans (Off.of_below (below_gr _ _)) hW.off
      refine ⟨⟨hoff.size, fun k hk => hoff.same k (by omega) (by omega)⟩, ?_⟩
      refine ⟨hP.bel.trans ⟨hoff.base.os, hoff.base.tape, hoff.base.output, hoff.size, fun k hk => hoff.same k (by omega) (by omega)⟩, ?_, ?_⟩
      · rw [h1]
        have e : Lib.byteCells (notesB pre ++ x) = Lib.byteCells (notesB pre) ++ Lib.strCells (ofL x) := by rw [Lib.strCells_eq, ofL_list]; simp [Lib.byteCells]
        rw [e]
        exact hU.bld
      · rw [h2]
        exact (hoff.same _ (by omega) (by omega)).trans hP.hn
  case hdone =>
    rintro xs W rfl hP hK
    clear hI hIx hcap
    rw [hz0] at hK ⊢
    have hcN : W.cell? ⟨w.heap.size + 1, 0, none⟩ = some (.int .i64 ((notesC (linesS L) : Nat) : Int)) := by rw [cell_of_row W _ 0 _ _ _ hP.hn]; rfl
    have hl1 := (Array.getElem?_eq_some_iff.1 hP.hn).1
    haveI : Old (w.heap.size + 1) W := ⟨hl1⟩
    obtain ⟨N, hN⟩ : ∃ N, notesC (linesS L) = N := ⟨_, rfl⟩
    rw [hN] at hcN
    have hn := hP.hn
    rw [hN] at hn
    obtain ⟨T, hT⟩ : ∃ T, notesB (linesS L) = T := ⟨_, rfl⟩
    have hM0 : NE w (w.heap.size + 3) T N W := ⟨hP.bel, by rw [← hT]; exact hP.bld.isF (Nat.le_refl _) (by omega), hn, hK⟩
    have HN := Lib.hid hN
    have HT := Lib.hid hT
    clear hN hT
    clear hcN hn hP hK hN0 hb0 hz0
    have cS := fun (V : World) (h : NE w (w.heap.size + 3) T N V) => Try.Builder_String_any_k w.heap.size w.heap.size T V h.isF h.bel.size
    go_wp2_with fail
    refine (wpIn_wide (n := 3)).1 ?_
    refine wpIn_region_rel (fun a0 listed a V => ∃ s0 s1 s2 s3 : Value, a = (((a0.put (some 17) s0).put (some 18) s1).put (some 2) s2).put (some 3) s3 ∧
      (flag listed 0 → s0 = .string (ofL T)) ∧ (flag listed 1 → s1 = .int .i64 (N : Int)) ∧ (flag listed 2 → s2 = .string (ofL T)) ∧ (flag listed 3 → s3 = .int .i64 (N : Int)) ∧
      NE w (w.heap.size + 3) T N V) (by kernel_rfl) (by kernel_rfl) ?_ ⟨?_, ?_, ?_, ?_, trivial⟩ ?_
    · intro listed h
      refine ⟨undef, undef, _, _, rfl, ?_, ?_, ?_, ?_, hM0.drew⟩ <;> (intro hc; unfold flag at hc; rw [h] at hc; cases hc)
    · rintro listed a V ⟨s0, s1, s2, s3, rfl, e0, e1, e2, e3, hB⟩ hlt hd
      gi_wp2_with fail
      refine ⟨trivial, ?_⟩
      refine (callsIn_wide.2 (cS _ hB)).mono ?_
      rintro e V2 ⟨rfl, hF2, hb2, hk2⟩
      have hB2 : NE w (w.heap.size + 3) T N V2 := ⟨hB.bel.trans hb2, hF2, hk2 _ _ hB.hn (by simp) (by intro c fz; simp), hk2 _ _ hB.hK (by simp) (by intro c fz; simp)⟩
      gi_wp2_with fail
      refine ⟨rfl, _, _, _, _, rfl, ?_, ?_, ?_, ?_, hB2⟩
      · exact fun _ => rfl
      · exact fun hc => e1 ((flag_set hc).resolve_left (by decide))
      · exact fun hc => e2 ((flag_set hc).resolve_left (by decide))
      · exact fun hc => e3 ((flag_set hc).resolve_left (by decide))
    · rintro listed a V ⟨s0, s1, s2, s3, rfl, e0, e1, e2, e3, hB⟩ hlt hd
      have hc2 := hB.cell
      gi_wp2_with fail
      refine ⟨rfl, _, _, _, _, rfl, ?_, ?_, ?_, ?_, hB⟩
      · exact fun hc => e0 ((flag_set hc).resolve_left (by decide))
      · exact fun _ => rfl
      · exact fun hc => e2 ((flag_set hc).resolve_left (by decide))
      · exact fun hc => e3 ((flag_set hc).resolve_left (by decide))
    · rintro listed a V ⟨s0, s1, s2, s3, rfl, e0, e1, e2, e3, hB⟩ hlt hd
      obtain rfl := e0 (hd 0 (by decide))
      gi_wp2_with fail
      refine ⟨rfl, _, _, _, _, rfl, ?_, ?_, ?_, ?_, hB⟩
      · exact fun _ => rfl
      · exact fun hc => e1 ((flag_set hc).resolve_left (by decide))
      · exact fun _ => rfl
      · exact fun hc => e3 ((flag_set hc).resolve_left (by decide))
    · rintro listed a V ⟨s0, s1, s2, s3, rfl, e0, e1, e2, e3, hB⟩ hlt hd
      obtain rfl := e1 (hd 1 (by decide))
      gi_wp2_with fail
      refine ⟨rfl, _, _, _, _, rfl, ?_, ?_, ?_, ?_, hB⟩
      · exact fun hc => e0 ((flag_set hc).resolve_left (by decide))
      · exact fun _ => rfl
      · exact fun hc => e2 ((flag_set hc).resolve_left (by decide))
      · exact fun _ => rfl
    · rintro listed a V ⟨s0, s1, s2, s3, rfl, e0, e1, e2, e3, hB⟩ hall
      obtain rfl := e0 (hall 0 (by decide))
      obtain rfl := e1 (hall 1 (by decide))
      obtain rfl := e2 (hall 2 (by decide))
      obtain rfl := e3 (hall 3 (by decide))
      gi_wp2_with fail
      go_wp2_with fail
      refine ⟨by simp, .inl ⟨_, _, rfl, run_takeDeferred hB.hK, ?_⟩⟩
      exact ⟨_, results_tmp2 rfl _ _ _, Ret.mk (by rw [HT.out, HN.out]; rfl) (hB.bel.trans (below_put _ (w.heap.size + 3) _ _ (by omega) hB.hK hB.bel.size))⟩
  case hstop =>
    rintro c pre W _ h _
    exact h.elim

end Go.Proofs.Ytajionjffijffaa

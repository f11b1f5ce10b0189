/-
  script.Words: how many numbers an act has.
-/
import Derived.Test.YtajionjffijffaaWds
namespace Go.Proofs.Ytajionjffijffaa
open Go.RowKit Go.Sort
attribute [local go_sem] Oper.semAt_some

def wsL (i : Nat) : List (List UInt8) := (wsT i).map (·.data.toList)
theorem mem_wsL (s : ByteArray) (i : Nat) : s ∈ wsT i ↔ s.data.toList ∈ wsL i := by
  unfold wsL
  rw [List.mem_map]
  constructor
  · exact fun h => ⟨s, h, rfl⟩
  · rintro ⟨t, ht, e⟩
    rw [← ba_ext e]
    exact ht
def wordsS (s : ByteArray) : Option Nat :=
  if s.data.toList ∈ wsL 0 then some 0 else if s.data.toList ∈ wsL 1 then some 1 else if s.data.toList ∈ wsL 2 then some 2 else if s.data.toList ∈ wsL 3 then some 4 else none
theorem apart10 : ∀ x ∈ wsL 1, x ∉ wsL 0 := by decide
theorem apart20 : ∀ x ∈ wsL 2, x ∉ wsL 0 := by decide
theorem apart21 : ∀ x ∈ wsL 2, x ∉ wsL 1 := by decide
theorem apart30 : ∀ x ∈ wsL 3, x ∉ wsL 0 := by decide
theorem apart31 : ∀ x ∈ wsL 3, x ∉ wsL 1 := by decide
theorem apart32 : ∀ x ∈ wsL 3, x ∉ wsL 2 := by decide
theorem wordsS_of {s : ByteArray} {i : Nat} (hi : i < 4) (h : s ∈ wsT i) : wordsS s = some (keyT i) := by
  unfold wordsS
  have h := (mem_wsL s i).1 h
  rcases (show i = 0 ∨ i = 1 ∨ i = 2 ∨ i = 3 by omega) with rfl | rfl | rfl | rfl
  · rw [if_pos h]; rfl
  · rw [if_neg (apart10 _ h), if_pos h]; rfl
  · rw [if_neg (apart20 _ h), if_neg (apart21 _ h), if_pos h]; rfl
  · rw [if_neg (apart30 _ h), if_neg (apart31 _ h), if_neg (apart32 _ h), if_pos h]; rfl
theorem wordsS_none {s : ByteArray} (h : ∀ i, i < 4 → s ∉ wsT i) : wordsS s = none := by
  unfold wordsS
  have h' := fun i hi => fun e => h i hi ((mem_wsL s i).2 e)
  rw [if_neg (h' 0 (by omega)), if_neg (h' 1 (by omega)), if_neg (h' 2 (by omega)), if_neg (h' 3 (by omega))]
def wordsV (s : ByteArray) : Value := .tuple #[.int .i64 (((wordsS s).getD 0 : Nat) : Int), .bool (wordsS s).isSome]

theorem wordsW_size (w : World) : (wordsW w).heap.size = w.heap.size + 5 := by simp [wordsW]
theorem words_cell (w : World) (i j : Nat) (hi : i < 4) (hj : j < (wsT i).length) : (wordsW w).cell? ⟨w.heap.size + 1 + i, 0 + j, none⟩ = some (.string ((wsT i).getD j ByteArray.empty)) := by
  have e : (wcells i)[j]? = some (.string ((wsT i).getD j ByteArray.empty)) := by
    simp [wcells, List.getD, hj]
  rw [← e, Nat.zero_add]
  unfold wordsW
  rcases (show i = 0 ∨ i = 1 ∨ i = 2 ∨ i = 3 by omega) with rfl | rfl | rfl | rfl <;> simp [go_sem]
theorem words_map (w : World) : (wordsW w).heap[w.heap.size]? = some (.map (esT w.heap.size) 4) := by
  unfold wordsW
  rw [Below.heap_alloc _ _ _ (by simp; omega), Below.heap_alloc _ _ _ (by simp; omega), Below.heap_alloc _ _ _ (by simp; omega), Below.heap_alloc _ _ _ (by simp)]
  exact World.alloc_heap_new _ _
theorem wordsW_below (w : World) : Below w.heap.size w (wordsW w) := by
  unfold wordsW
  (repeat' (first | (with_reducible exact Below.refl _ _) | (with_reducible refine belowGrU ?_ _) | (with_reducible refine belowAlloc ?_ _) | (with_reducible refine Below.setCell ?_ ?_ _) | (with_reducible refine Below.drew ?_) | (simp [go_sem]; done) | (simp [go_sem]; omega)))

/-- results that lie in cells of their own: two plain values -/
theorem load_cell {ty : TypeId} {d : TypeDesc} (hu : Try.prog.underlying ty = some d) (hd : (match d with | .struct _ | .array _ _ => true | _ => false) = false) (w : World) (g : Nat) (v : Value) (hc : w.cell? ⟨g, 0, none⟩ = some v) :
    (loadVar ty ⟨g, 0, none⟩).run Try.prog w = .ok v w := by
  have ha : (isAgg ty).run Try.prog w = .ok false w := by
    unfold isAgg
    rw [Sem.run_bind, run_underlying hu w]
    cases d <;> simp_all
  simp [loadVar, Sem.run_bind, ha, go_sem, hc]

theorem results_cells2 {fn : Func} {p q : Tmp} {t u : TypeId} {dt du : TypeDesc} (h : fn.results = #[.cell p t, .cell q u]) (tmps : Array Value) (w : World) (g k : Nat) (x y : Value)
    (hut : Try.prog.underlying t = some dt) (hdt : (match dt with | .struct _ | .array _ _ => true | _ => false) = false) (huu : Try.prog.underlying u = some du) (hdu : (match du with | .struct _ | .array _ _ => true | _ => false) = false)
    (hp : tmps.getD p undef = .pointer (some ⟨g, 0, none⟩)) (hq : tmps.getD q undef = .pointer (some ⟨k, 0, none⟩)) (hx : w.cell? ⟨g, 0, none⟩ = some x) (hy : w.cell? ⟨k, 0, none⟩ = some y) :
    (results fn tmps).run Try.prog w = .ok (.tuple #[x, y]) w := by
  have hp' : tmps[p]?.getD undef = .pointer (some ⟨g, 0, none⟩) := by simpa using hp
  have hq' : tmps[q]?.getD undef = .pointer (some ⟨k, 0, none⟩) := by simpa using hq
  have l1 := load_cell hut hdt w g x hx
  have l2 := load_cell huu hdu w k y hy
  simp [results, h, hp', hq', asAddr, l1, l2]
theorem gr_heap_past (W W' : World) (g : Gr) (D : Nat) (hs : W.heap.size = W'.heap.size) (hD : W.heap.size ≤ D) : (gr W g).heap[D]? = (gr W' g).heap[D]? := by
  simp only [gr, grow, redrawn]
  rw [Array.getElem?_append_right (by exact hD), Array.getElem?_append_right (by show W'.heap.size ≤ D; omega)]
  show g.os[D - W.heap.size]? = g.os[D - W'.heap.size]?
  rw [hs]
theorem kept_same (W W' : World) (g : Gr) (B : Nat) (hs : W'.heap.size = W.heap.size) (hB : B = W.heap.size) : Kept B (gr W g) (gr W' g) := by
  subst hB
  exact ⟨by rw [gr_size, gr_size]; omega, fun k hk _ => gr_heap_past _ _ g k hs (by omega)⟩

set_option maxRecDepth 20000 in
set_option maxHeartbeats 1000000 in
theorem Words_any (s : ByteArray) : Pure Try.prog 11 #[.string s] (wordsV s) := by
  intro w
  refine (callsIn_wide (n := 3)).1 ?_
  refine callsIn_of_wp_marks Try.func11 rfl trivial ?_ rfl
  simp only [Try.ntmps11, List.size_toArray, List.length_cons, List.length_nil, Nat.reduceAdd, Nat.reduceSub, Array.replicate_succ, Array.replicate_zero, List.push_toArray, List.append_toArray, List.nil_append, List.cons_append]
  refine wpIn_wide.2 ?_
  go_wp2_with (first | (go_at_call 26; refine (words_at _).mono ?_; rintro e w' ⟨rfl, rfl⟩) | (go_at_call 25; refine (All_at _ _).mono ?_; rintro e w' ⟨rfl, rfl⟩))
  obtain ⟨W1, hW1⟩ : ∃ W1, ((w.alloc (.cells #[.string s] 9)).alloc (.cells #[.int .i64 0] 3)).alloc (.cells #[.bool false] 4) = W1 := ⟨_, rfl⟩
  have hs1 : W1.heap.size = w.heap.size + 3 := by rw [← hW1]; simp
  have hs2 := wordsW_size W1
  have hmap := words_map W1
  have hcel := words_cell W1
  rw [show w.heap.size + 1 + 1 + 1 = W1.heap.size from hs1.symm]
  have hc0 : (wordsW W1).cell? ⟨w.heap.size, 0, none⟩ = some (.string s) := by
    rw [(wordsW_below W1).cell (p := ⟨w.heap.size, 0, none⟩) (by show w.heap.size < _; omega), ← hW1]; simp [go_sem]
  have hc1 : (wordsW W1).cell? ⟨w.heap.size + 1, 0, none⟩ = some (.int .i64 0) := by
    rw [(wordsW_below W1).cell (p := ⟨w.heap.size + 1, 0, none⟩) (by show w.heap.size + 1 < _; omega), ← hW1]; simp [go_sem]
  have hc2 : (wordsW W1).cell? ⟨w.heap.size + 1 + 1, 0, none⟩ = some (.bool false) := by
    rw [(wordsW_below W1).cell (p := ⟨w.heap.size + 1 + 1, 0, none⟩) (by show w.heap.size + 1 + 1 < _; omega), ← hW1]; simp [go_sem]
  have hb1 : Below w.heap.size w (wordsW W1) := by
    refine Below.trans ?_ ((wordsW_below W1).mono (by omega))
    rw [← hW1]; (repeat' (first | (with_reducible exact Below.refl _ _) | (with_reducible refine belowGrU ?_ _) | (with_reducible refine belowAlloc ?_ _) | (with_reducible refine Below.setCell ?_ ?_ _) | (with_reducible refine Below.drew ?_) | (simp [go_sem]; done) | (simp [go_sem]; omega)))
  have hf1 : (wordsW W1).frozen? ⟨w.heap.size + 1, 0, none⟩ = false := by
    rw [World.frozen?_of_block ((wordsW_below W1).block (w.heap.size + 1) (by omega)), ← hW1]; simp [go_sem]
  have hf2 : (wordsW W1).frozen? ⟨w.heap.size + 1 + 1, 0, none⟩ = false := by
    rw [World.frozen?_of_block ((wordsW_below W1).block (w.heap.size + 1 + 1) (by omega)), ← hW1]; simp [go_sem]
  rw [hW1]
  clear hW1
  generalize wordsW W1 = W2 at *
  generalize W1.heap.size = M at *
  subst hs1
  have hc3 : W2.heap.size = (w.heap.size + 3) + 5 := hs2
  have hBm : (W2.alloc (.cells #[.map (some (w.heap.size + 3))] 71)).cell? ⟨W2.heap.size, 0, none⟩ = some (.map (some (w.heap.size + 3))) := by simp [go_sem]
  have hs3 : (W2.alloc (.cells #[.map (some (w.heap.size + 3))] 71)).heap.size = (w.heap.size + 3) + 6 := by simp [hs2]
  have hmap3 : (W2.alloc (.cells #[.map (some (w.heap.size + 3))] 71)).heap[(w.heap.size + 3)]? = some (.map (esT (w.heap.size + 3)) 4) := (Below.heap_alloc _ _ _ (by omega)).trans hmap
  have pst : ∀ (k j : Nat), k < (w.heap.size + 3) + 5 → (W2.alloc (.cells #[.map (some (w.heap.size + 3))] 71)).cell? ⟨k, j, none⟩ = W2.cell? ⟨k, j, none⟩ := fun k j hk => World.cell?_alloc_lt _ _ _ (by show k < _; omega)
  have hcel3 := fun i j hi hj => (pst ((w.heap.size + 3) + 1 + i) (0 + j) (by omega)).trans (hcel i j hi hj)
  have hd0 := (pst w.heap.size 0 (by omega)).trans hc0
  have hd1 := (pst (w.heap.size + 1) 0 (by omega)).trans hc1
  have hd2 := (pst (w.heap.size + 1 + 1) 0 (by omega)).trans hc2
  have hg1 : (W2.alloc (.cells #[.map (some (w.heap.size + 3))] 71)).frozen? ⟨w.heap.size + 1, 0, none⟩ = false := (World.frozen?_alloc_old _ _ _ (by show w.heap.size + 1 ≠ _; omega)).trans hf1
  have hg2 : (W2.alloc (.cells #[.map (some (w.heap.size + 3))] 71)).frozen? ⟨w.heap.size + 1 + 1, 0, none⟩ = false := (World.frozen?_alloc_old _ _ _ (by show w.heap.size + 1 + 1 ≠ _; omega)).trans hf2
  have hb3 : Below w.heap.size w (W2.alloc (.cells #[.map (some (w.heap.size + 3))] 71)) := hb1.trans (Below.alloc (Below.refl _ _) (by omega) _)
  rw [hs2] at hBm ⊢
  generalize W2.alloc (.cells #[.map (some (w.heap.size + 3))] 71) = W3 at *
  clear hcel hc0 hc1 hc2 hf1 hf2 hb1 hmap pst hc3 hs2
  haveI o0 : Old w.heap.size W3 := ⟨by omega⟩
  haveI o1 : Old (w.heap.size + 1) W3 := ⟨by omega⟩
  haveI o2 : Old (w.heap.size + 1 + 1) W3 := ⟨by omega⟩
  haveI o3 : Old ((w.heap.size + 3) + 5) W3 := ⟨by omega⟩
  refine (wpIn_wide (n := 3)).1 ?_
  have hI : From W3.heap.size (fun (pre : List Nat) W => (∀ i ∈ pre, s ∉ wsT i) ∧ ∃ g : Gr, W = gr W3 g) :=
    from_and (from_pure _) (from_gr (fun _ : List Nat => W3) (fun _ => rfl))
  have hIx : ∀ c : Code, From W3.heap.size (fun (_ : List Nat) W => c = .ret ∧ ∃ i, i < 4 ∧ s ∈ wsT i ∧ ∃ g : Gr, W = gr ((W3.setCell ⟨w.heap.size + 1, 0, none⟩ (.int .i64 (keyT i : Int))).setCell ⟨w.heap.size + 1 + 1, 0, none⟩ (.bool true)) g) := fun c => by
    rintro s1 A B ⟨hc, i, hi, hm, hg⟩ hb
    exact ⟨hc, i, hi, hm, from_gr (fun _ : List Nat => (W3.setCell ⟨w.heap.size + 1, 0, none⟩ (.int .i64 (keyT i : Int))).setCell ⟨w.heap.size + 1 + 1, 0, none⟩ (.bool true)) (fun _ => by rw [World.size_setCell, World.size_setCell]) s1 A B hg hb⟩
  have hKp : ∀ (pre : List Nat) W, ((∀ i ∈ pre, s ∉ wsT i) ∧ ∃ g : Gr, W = gr W3 g) → W.cell? ⟨(w.heap.size + 3) + 5, 0, none⟩ = some (.map (some (w.heap.size + 3))) ∧ W.heap[(w.heap.size + 3)]? = some (.map (esT (w.heap.size + 3)) 4) := fun pre W ⟨_, g, hW⟩ => by
    subst hW
    exact ⟨(cell_gr ..).trans hBm, (gr_heap _ _ (by omega)).trans hmap3⟩
  apply wpIn_range_ownK (w := W3) (gf := 42) (lb := #[.pointer (some ⟨(w.heap.size + 3) + 5, 0, none⟩)]) rfl eg_all1
    (All1_own (w.heap.size + 3) ((w.heap.size + 3) + 5) W3) (Below.refl _ _) (fun _ => rfl) _ _ hKp hI hIx ⟨by simp, ex_gr _⟩
  case hassign =>
    intro l m x W K hK
    simp only [encT]
    gi_wp2
    exact hK
  case hbody =>
    rintro l m pre x W ⟨hpre, g, rfl⟩ ⟨xs, hxs, hpx⟩
    have hx4 : x < 4 := (hxs.2 x).1 (hpx.subset (by simp))
    haveI ox : Old ((w.heap.size + 3) + 1 + x) W3 := ⟨by omega⟩
    have cC := Try.slices_Contains_string ((w.heap.size + 3) + 1 + x) 0 (wsT x).length (wsT x).length (wsT x) s (gr W3 g) (Nat.le_refl _)
      (by rcases (show x = 0 ∨ x = 1 ∨ x = 2 ∨ x = 3 by omega) with rfl | rfl | rfl | rfl <;> decide) (fun j hj => (cell_gr ..).trans (hcel3 x j hx4 hj))
    rw [List.take_length] at cC
    have hiff := Lib.containsS_iff (wsT x) s
    generalize Lib.containsS (wsT x) s = β at cC hiff
    clear hcel3
    gi_wp2_with (refine ⟨trivial, fun h => (by simp [Fence.wide] at h), ?_⟩; refine (CallsIn.inRound l (callsIn_wide.2 cC)).mono ?_; rintro e w' ⟨rfl, rfl⟩)
    · rename_i hb
      subst hb
      exact ⟨kept_same _ _ _ _ (by simp) rfl, rfl, x, hx4, hiff.1 rfl, g, rfl⟩
    · rename_i hb
      subst hb
      refine ⟨Kept.refl _ _, fun i hi => ?_, g, rfl⟩
      rcases List.mem_append.1 hi with h | h
      · exact hpre i h
      · simp at h
        subst h
        exact fun e => absurd (hiff.2 e) (by simp)
  case hdone =>
    rintro D xs W hD hxs ⟨hpre, g, rfl⟩ hK
    have hno : wordsS s = none := wordsS_none fun i hi => hpre i ((hxs.2 i).2 hi)
    have hv : wordsV s = .tuple #[.int .i64 0, .bool false] := by unfold wordsV; rw [hno]; rfl
    have hK2 : (gr ((W3.setCell ⟨w.heap.size + 1, 0, none⟩ (.int .i64 0)).setCell ⟨w.heap.size + 1 + 1, 0, none⟩ (.bool false)) g).heap[D]? = some (.deferred (some [])) :=
      (gr_heap_past _ _ g D (by simp) (by simp; exact hD)).trans hK
    have HK := Lib.hid hK2
    have HV := Lib.hid hv
    clear hK hK2 hv hno hcel3
    go_wp2_with fail
    refine ⟨by simp, .inl ⟨_, _, rfl, run_takeDeferred HK.out, ?_⟩⟩
    have hb4 : Below w.heap.size w (gr ((W3.setCell ⟨w.heap.size + 1, 0, none⟩ (.int .i64 0)).setCell ⟨w.heap.size + 1 + 1, 0, none⟩ (.bool false)) g) := by
      haveI : Upto w.heap.size W3 := ⟨hb3.size⟩
      exact belowGrU (Below.setCell (Below.setCell hb3 (by show w.heap.size ≤ w.heap.size + 1; omega) _) (by show w.heap.size ≤ w.heap.size + 1 + 1; omega) _) _
    refine ⟨_, results_cells2 rfl _ _ (w.heap.size + 1) (w.heap.size + 1 + 1) (.int .i64 0) (.bool false) Try.underlying3 rfl Try.underlying4 rfl rfl rfl ?_ ?_, by rw [HV.out], hb4.trans (below_put _ D _ _ (by omega) HK.out hb4.size)⟩
    · rw [World.cell?_of_block (World.putObj_heap_other (by show w.heap.size + 1 ≠ D; omega))]
      have e : ((W3.setCell ⟨w.heap.size + 1, 0, none⟩ (.int .i64 0)).setCell ⟨w.heap.size + 1 + 1, 0, none⟩ (.bool false)).cell? ⟨w.heap.size + 1, 0, none⟩ = some (.int .i64 0) := by
        rw [World.cell?_setCell_other _ _ _ _ (by simp), World.cell?_setCell_same' _ _ _ (by rw [hd1]; rfl)]
      exact (cell_gr ..).trans e
    · rw [World.cell?_of_block (World.putObj_heap_other (by show w.heap.size + 1 + 1 ≠ D; omega))]
      have e : ((W3.setCell ⟨w.heap.size + 1, 0, none⟩ (.int .i64 0)).setCell ⟨w.heap.size + 1 + 1, 0, none⟩ (.bool false)).cell? ⟨w.heap.size + 1 + 1, 0, none⟩ = some (.bool false) := by
        rw [World.cell?_setCell_same' _ _ _ (by rw [World.cell?_setCell_other _ _ _ _ (by simp), hd2]; rfl)]
      exact (cell_gr ..).trans e
  case hstop =>
    rintro D c pre W hD _ ⟨rfl, i, hi, hm, g, rfl⟩ hK
    have hv : wordsV s = .tuple #[.int .i64 (keyT i : Int), .bool true] := by unfold wordsV; rw [wordsS_of hi hm]; rfl
    have HK := Lib.hid hK
    have HV := Lib.hid hv
    refine wpIn_wide.2 ?_
    clear hK hv hcel3
    go_wp2_with fail
    refine ⟨by simp, .inl ⟨_, _, rfl, run_takeDeferred HK.out, ?_⟩⟩
    have hb4 : Below w.heap.size w (gr ((W3.setCell ⟨w.heap.size + 1, 0, none⟩ (.int .i64 (keyT i : Int))).setCell ⟨w.heap.size + 1 + 1, 0, none⟩ (.bool true)) g) := by
      haveI : Upto w.heap.size W3 := ⟨hb3.size⟩
      exact belowGrU (Below.setCell (Below.setCell hb3 (by show w.heap.size ≤ w.heap.size + 1; omega) _) (by show w.heap.size ≤ w.heap.size + 1 + 1; omega) _) _
    refine ⟨_, results_cells2 rfl _ _ (w.heap.size + 1) (w.heap.size + 1 + 1) (.int .i64 (keyT i : Int)) (.bool true) Try.underlying3 rfl Try.underlying4 rfl rfl rfl ?_ ?_, by rw [HV.out], hb4.trans (below_put _ D _ _ (by omega) HK.out hb4.size)⟩
    · rw [World.cell?_of_block (World.putObj_heap_other (by show w.heap.size + 1 ≠ D; omega))]
      have e : ((W3.setCell ⟨w.heap.size + 1, 0, none⟩ (.int .i64 (keyT i : Int))).setCell ⟨w.heap.size + 1 + 1, 0, none⟩ (.bool true)).cell? ⟨w.heap.size + 1, 0, none⟩ = some (.int .i64 (keyT i : Int)) := by
        rw [World.cell?_setCell_other _ _ _ _ (by simp), World.cell?_setCell_same' _ _ _ (by rw [hd1]; rfl)]
      exact (cell_gr ..).trans e
    · rw [World.cell?_of_block (World.putObj_heap_other (by show w.heap.size + 1 + 1 ≠ D; omega))]
      have e : ((W3.setCell ⟨w.heap.size + 1, 0, none⟩ (.int .i64 (keyT i : Int))).setCell ⟨w.heap.size + 1 + 1, 0, none⟩ (.bool true)).cell? ⟨w.heap.size + 1 + 1, 0, none⟩ = some (.bool true) := by
        rw [World.cell?_setCell_same' _ _ _ (by rw [World.cell?_setCell_other _ _ _ _ (by simp), hd2]; rfl)]
      exact (cell_gr ..).trans e

end Go.Proofs.Ytajionjffijffaa

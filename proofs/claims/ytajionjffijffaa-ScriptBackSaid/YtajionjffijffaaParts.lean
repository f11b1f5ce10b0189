/-
  script.parts: a line parted at its blanks; the parts lie in a row of the call's own.
-/
import Derived.Laws.AppendOwn
import Derived.Lib.OthersKept
import Derived.Test.YtajionjffijffaaGrp
namespace Go.Proofs.Ytajionjffijffaa
open Go.RowKit Go.Sort

def flat : List (ByteArray × Int) → List Value
  | [] => []
  | p :: ps => .string p.1 :: .int .i64 p.2 :: flat ps
theorem flat_len : ∀ ps, (flat ps).length = ps.length * 2
  | [] => rfl
  | p :: ps => by simp [flat, flat_len ps]; omega
theorem flat_append : ∀ a b, flat (a ++ b) = flat a ++ flat b
  | [], b => rfl
  | p :: a, b => by simp [flat, flat_append a b]
theorem flat_even : ∀ (ps : List (ByteArray × Int)) (k : Nat) (h : k < ps.length), (flat ps)[2 * k]? = some (.string (ps[k]).1)
  | p :: ps, 0, _ => rfl
  | p :: ps, k + 1, h => by
    have := flat_even ps k (by simpa using h)
    rw [show 2 * (k + 1) = 2 * k + 1 + 1 by omega]
    simpa [flat] using this
theorem flat_odd : ∀ (ps : List (ByteArray × Int)) (k : Nat) (h : k < ps.length), (flat ps)[2 * k + 1]? = some (.int .i64 (ps[k]).2)
  | p :: ps, 0, _ => rfl
  | p :: ps, k + 1, h => by
    have := flat_odd ps k (by simpa using h)
    rw [show 2 * (k + 1) + 1 = 2 * k + 1 + 1 + 1 by omega]
    simpa [flat] using this
theorem flat_oneCell : ∀ ps, ∀ u ∈ flat ps, u.oneCell' = true
  | [], u, h => by simp [flat] at h
  | p :: ps, u, h => by
    simp only [flat, List.mem_cons] at h
    rcases h with rfl | rfl | h
    · rfl
    · rfl
    · exact flat_oneCell ps u h

/-- the row of parts in memory -/
structure OwnP (V : World) (B g cap : Nat) (ps : List (ByteArray × Int)) : Prop where
  base : B ≤ g
  row : ∃ cur : Array Value, V.heap[g]? = some (.cells cur 67 (0, 0)) ∧ cur.size = cap * 2 ∧ cur.toList.take (ps.length * 2) = flat ps
  le : ps.length ≤ cap
  max : cap ≤ maxLen
theorem OwnP.lt {V : World} {B g cap : Nat} {ps : List (ByteArray × Int)} (h : OwnP V B g cap ps) : g < V.heap.size := by
  obtain ⟨cur, hg, _⟩ := h.row
  exact (Array.getElem?_eq_some_iff.1 hg).1
theorem OwnP.kept {V V' : World} {B g cap : Nat} {ps : List (ByteArray × Int)} (h : OwnP V B g cap ps) (hk : V'.heap[g]? = V.heap[g]?) : OwnP V' B g cap ps := by
  obtain ⟨cur, hg, hs⟩ := h.row
  exact ⟨h.base, ⟨cur, hk.trans hg, hs⟩, h.le, h.max⟩
theorem OwnP.cell0 {V : World} {B g cap : Nat} {ps : List (ByteArray × Int)} (h : OwnP V B g cap ps) (k : Nat) (hk : k < ps.length) : V.cell? ⟨g, 2 * k, none⟩ = some (.string (ps[k]).1) := by
  obtain ⟨cur, hg, hs, ht⟩ := h.row
  rw [cell_of_row V g (2 * k) cur _ _ hg, ← flat_even ps k hk, ← ht, List.getElem?_take_of_lt (by omega)]
  simp
theorem OwnP.cell1 {V : World} {B g cap : Nat} {ps : List (ByteArray × Int)} (h : OwnP V B g cap ps) (k : Nat) (hk : k < ps.length) : V.cell? ⟨g, 2 * k + 1, none⟩ = some (.int .i64 (ps[k]).2) := by
  obtain ⟨cur, hg, hs, ht⟩ := h.row
  rw [cell_of_row V g (2 * k + 1) cur _ _ hg, ← flat_odd ps k hk, ← ht, List.getElem?_take_of_lt (by omega)]
  simp
theorem OwnP.free {V : World} {B g cap : Nat} {ps : List (ByteArray × Int)} (h : OwnP V B g cap ps) (j : Nat) : V.frozen? ⟨g, j, none⟩ = false := by
  obtain ⟨cur, hg, _⟩ := h.row
  simp [World.frozen?, hg]
/-- the last part's text set -/
theorem OwnP.set {V : World} {B g cap : Nat} {ps : List (ByteArray × Int)} {p : ByteArray × Int} (h : OwnP V B g cap (ps ++ [p])) (s : ByteArray) : OwnP (V.setCell ⟨g, 2 * ps.length, none⟩ (.string s)) B g cap (ps ++ [(s, p.2)]) := by
  obtain ⟨cur, hg, hs, ht⟩ := h.row
  have hle := h.le
  simp only [List.length_append, List.length_singleton] at hle ht
  refine ⟨h.base, ⟨cur.setIfInBounds (2 * ps.length) (.string s), ?_, by simpa using hs, ?_⟩, by simpa using hle, h.max⟩
  · rw [setCell_eq_setRow V g (2 * ps.length) cur _ (0, 0) _ hg]
    exact setRow_heap V g cur _ _ _ hg
  · simp only [List.length_append, List.length_singleton, Array.toList_setIfInBounds]
    rw [List.take_set, ht, flat_append, flat_append, show 2 * ps.length = (flat ps).length + 0 by rw [flat_len]; omega]
    simp [flat]

/-- 'append(out, part{s, z})' -/
theorem run_app {V : World} {B g cap : Nat} {ps : List (ByteArray × Int)} (h : OwnP V B g cap ps) (hB : B ≤ V.heap.size) (hl : ps.length < 1000000) (s : ByteArray) (z : Int) :
    ∃ g' cap' W', (Builtin.append_ #[62, 62] 62 #[.slice (some ⟨g, 0, none⟩) ps.length cap, .slice (some ⟨V.heap.size, 0, none⟩) 1 1]).run Try.prog (V.alloc (.cells #[.string s, .int .i64 z] 67)) =
      .ok (.slice (some ⟨g', 0, none⟩) (ps.length + 1) cap') W' ∧ OwnP W' B g' cap' (ps ++ [(s, z)]) ∧ (V.alloc (.cells #[.string s, .int .i64 z] 67)).grownBy W' (some g) := by
  obtain ⟨cur, hg, hs, ht⟩ := h.row
  have own : V.ownsRow B 67 2 (.slice (some ⟨g, 0, none⟩) ps.length cap) ps.length (flat ps) :=
    ⟨flat_len ps, .inr ⟨g, cap, cur, rfl, h.base, hg, h.le, h.max, hs, ht⟩⟩
  have hinfo : (Try.prog.info? 67).map (fun i => (i.zero, i.size, i.bytes)) = some (some (.agg #[.string ⟨#[]⟩, .int .i64 0]), 2, 24) := by kernel_rfl
  obtain ⟨i0, hi, hz0, hz1, hz2⟩ := info_parts hinfo
  obtain ⟨v', W', hrun, hown, hgr, hnil⟩ := run_append_own (P := Try.prog) (V.alloc (.cells #[.string s, .int .i64 z] 67)) B 62 62 67 i0 _ 2 24
    Try.underlying62 hi hz0 hz1 hz2 rfl (by omega) _ ps.length (flat ps) (own.alloc _) ⟨V.heap.size, 0, none⟩ 1 1 [.string s, .int .i64 z] rfl
    (fun j u hj => by
      have e : (⟨V.heap.size, 0, none⟩ : Addr).add j = ⟨V.heap.size, j, none⟩ := by unfold Addr.add; split <;> simp_all
      rw [e, cell_at]
      simpa using hj) (by simp [Value.oneCell']) (by unfold maxLen; omega) (by omega) (by simp; omega)
  rcases hown.2 with ⟨_, h0⟩ | ⟨g', cap', cur', rfl, hb', hg', hle', hmx', hs', ht'⟩
  · omega
  · refine ⟨g', cap', W', hrun, ⟨hb', ⟨cur', hg', hs', ?_⟩, by simpa using hle', hmx'⟩, hgr⟩
    rw [flat_append]
    simpa [flat] using ht'

theorem wp_append_run {P : Program} (w : World) {o : Oper} {a : Act} {K : Act → World → Prop} {Q : Exit → Act → World → Prop} (d s : Operand) (t t' : TypeId)
    (ho : o.op = .call { callee := .builtin .append, args := #[d, s], argTypes := #[t, t'] }) (v u : Value) (hd : a.eval d = v) (hs : a.eval s = u) {v' : Value} {w' : World}
    (hr : (Builtin.append_ #[t, t'] o.type #[v, u]).run P w = .ok v' w') (h : K (a.put o.dst v') w') : o.wp P a w K Q := by
  unfold Oper.wp execOp
  simp only [ho, resolve, invoke, builtin, Sem.run_bind, Sem.run_pure, Result.andThen_ok, List.map_toArray, List.map_cons, List.map_nil, hd, hs, hr]
  exact h
theorem wpList_append_run {P : Program} (w : World) {ops : Array Oper} {rest : List Oper} {o : Oper} {a : Act} {Q : Exit → Act → World → Prop} (hgd : o.guard = none) (d s : Operand) (t t' : TypeId)
    (ho : o.op = .call { callee := .builtin .append, args := #[d, s], argTypes := #[t, t'] }) (v u : Value) (hd : a.eval d = v) (hs : a.eval s = u) {v' : Value} {w' : World}
    (hr : (Builtin.append_ #[t, t'] o.type #[v, u]).run P w = .ok v' w') (h : wpList P ops Q rest (a.put o.dst v') w') : wpList P ops Q (o :: rest) a w :=
  wpList_plain hgd fun _ hK => wp_append_run w d s t t' ho v u hd hs hr (hK _ _ h)

/-! ### the parts -/
abbrev PState := List (ByteArray × Int) × Int
def pstep (st : PState) (r : Nat) : PState :=
  if r = 32 then (st.1 ++ [(⟨#[]⟩, st.2 + 2)], st.2 + 1)
  else (st.1.dropLast ++ [((st.1.getLastD (⟨#[]⟩, 0)).1 ++ Utf8.encode (r : Int), (st.1.getLastD (⟨#[]⟩, 0)).2)], st.2 + 1)
def pfold (st : PState) (rs : List Nat) : PState := rs.foldl pstep st
def pstart : PState := ([(⟨#[]⟩, 1)], 0)
def partsS (s : ByteArray) : List (ByteArray × Int) := (pfold pstart (runes s)).1 ++ [(⟨#[]⟩, (pfold pstart (runes s)).2 + 1)]

theorem iterAt_at (W : World) (k : Nat) (s : ByteArray) (p : Nat) (h : k < W.heap.size) : (W.iterAt k s p).heap[k]? = some (.stringIter s p) := by
  show (W.heap.setIfInBounds k _)[k]? = _
  simp [h]
theorem iterAt_other (W : World) (k : Nat) (s : ByteArray) (p j : Nat) (h : j ≠ k) : (W.iterAt k s p).heap[j]? = W.heap[j]? := by
  show (W.heap.setIfInBounds k _)[j]? = _
  rw [Array.getElem?_setIfInBounds, if_neg (by omega)]
theorem iterAt_size (W : World) (k : Nat) (s : ByteArray) (p : Nat) : (W.iterAt k s p).heap.size = W.heap.size := by
  show (W.heap.setIfInBounds k _).size = _
  simp
theorem iterAt_below (W : World) (k : Nat) (s : ByteArray) (p B : Nat) (h : B ≤ k) : Below B W (W.iterAt k s p) :=
  ⟨rfl, rfl, rfl, by rw [iterAt_size]; omega, fun j hj => iterAt_other W k s p j (by omega)⟩
theorem run_part_addr (W : World) (g n cap k : Nat) (h : k < n) : (Instr.indexAt 62 (.slice (some ⟨g, 0, none⟩) n cap) (.int .i64 (k : Int))).run Try.prog W = .ok (.pointer (some ⟨g, 2 * k, none⟩)) W := by
  have e : (⟨g, 0, none⟩ : Addr).add (k * 2) = ⟨g, 2 * k, none⟩ := by rw [Nat.mul_comm]; unfold Addr.add; split <;> simp_all
  simp [Instr.indexAt, asIntOf, run_underlying Try.underlying62, e]
  intro h'
  omega
theorem encode_small (r : Int) : (Utf8.encode r).size ≤ 4 := by
  unfold Utf8.encode
  simp only
  generalize (if Utf8.valid r = true then r.toNat else Utf8.runeError) = c
  split
  · exact Nat.le_of_ble_eq_true rfl
  · split
    · exact Nat.le_of_ble_eq_true rfl
    · split <;> exact Nat.le_of_ble_eq_true rfl

set_option maxRecDepth 20000 in
set_option maxHeartbeats 1000000 in
theorem parts_at (s : ByteArray) (hs : s.size ≤ 100000) (w : World) :
    Calls Try.prog 23 #[.string s] w fun e w' => ∃ g cap, e = .returned (.slice (some ⟨g, 0, none⟩) (partsS s).length cap) ∧ OwnP w' w.heap.size g cap (partsS s) ∧ Below w.heap.size w w' := by
  go_enter Try.func23, Try.ntmps23
  go_wp2_with fail
  obtain ⟨FIN, hF⟩ : ∃ F, pfold pstart (runes s) = F := ⟨_, rfl⟩
  have HF : Hid (partsS s = FIN.1 ++ [(⟨#[]⟩, FIN.2 + 1)]) := by rw [← hF]; rfl
  have hF0 : Hid (pfold ([] ++ [(⟨#[]⟩, 1)], 0) (runesAt s 0) = FIN) := hF
  clear hF
  have hW0 : OwnP ((w.alloc (.cells #[.string ⟨#[]⟩, .int .i64 1] 67)).alloc (.stringIter s 0)) w.heap.size w.heap.size 1 ([] ++ [(⟨#[]⟩, 1)]) :=
    ⟨Nat.le_refl _, ⟨_, (Below.heap_alloc _ _ _ (by simp)).trans (World.alloc_heap_new _ _), rfl, rfl⟩, Nat.le_refl _, by unfold maxLen; omega⟩
  have hI0 : ((w.alloc (.cells #[.string ⟨#[]⟩, .int .i64 1] 67)).alloc (.stringIter s 0)).heap[w.heap.size + 1]? = some (.stringIter s 0) := by
    have := World.alloc_heap_new (w.alloc (.cells #[.string ⟨#[]⟩, .int .i64 1] 67)) (.stringIter s 0)
    rwa [World.size_alloc] at this
  go_loopw [3, 4] (fun v a wr => ∃ (pos : Nat) (ps : List (ByteArray × Int)) (p : ByteArray × Int) (A : Int) (g cap : Nat), v = .slice (some ⟨g, 0, none⟩) (ps.length + 1) cap ∧ a = .int .i64 A ∧
      OwnP wr w.heap.size g cap (ps ++ [p]) ∧ wr.heap[w.heap.size + 1]? = some (.stringIter s pos) ∧ g ≠ w.heap.size + 1 ∧ Below w.heap.size w wr ∧ Hid (pfold (ps ++ [p], A) (runesAt s pos) = FIN) ∧
      (0 ≤ A ∧ A ≤ pos ∧ A ≤ s.size ∧ ps.length ≤ pos ∧ ps.length ≤ s.size) ∧ p.1.size ≤ 4 * pos)
    (fun _ _ wr => s.size - itPos wr (w.heap.size + 1))
  case atStart => exact ⟨0, [], (⟨#[]⟩, 1), 0, w.heap.size, 1, rfl, rfl, hW0, hI0, by omega, by (repeat' (first | (with_reducible exact Below.refl _ _) | (with_reducible refine belowGrU ?_ _) | (with_reducible refine belowAlloc ?_ _) | (with_reducible refine Below.setCell ?_ ?_ _) | (with_reducible refine Below.drew ?_) | (simp [go_sem]; done) | (simp [go_sem]; omega))), hF0, ⟨by omega, by simp, by simp, by simp, by simp⟩, by show 0 ≤ _; omega⟩
  case round =>
    obtain ⟨pos, ps, p, A, g, cap, rfl, rfl, hown, hit, hgr, hbel, HP, ⟨hA0, hA1, hA2, hpl, hpl2⟩, hpz⟩ := hrel
    clear hF0 hW0 hI0
    have hitp : itPos wr (w.heap.size + 1) = pos := by simp [itPos, hit]
    have hrlt : w.heap.size + 1 < wr.heap.size := (Array.getElem?_eq_some_iff.1 hit).1
    by_cases hlt : pos < s.size
    · have hnx := Lib.run_next_any_at (P := Try.prog) wr (w.heap.size + 1) s pos 0 hit hlt
      have hst := runesAt_step s pos hlt
      have hw := Lib.width_pos s pos
      have hle := decode_le s pos
      obtain ⟨R, hR⟩ : ∃ R, (Utf8.decode s pos).1 = R := ⟨_, rfl⟩
      obtain ⟨K, hK⟩ : ∃ K, (Utf8.decode s pos).2 = K := ⟨_, rfl⟩
      rw [hR, hK] at hst
      rw [hR, hK] at hnx
      rw [hR] at hle
      rw [hK] at hw
      have hP := HP.out
      rw [hst, pfold, List.foldl_cons, ← pfold] at hP
      have hit2 := iterAt_at wr (w.heap.size + 1) s (pos + K) hrlt
      have hown2 := hown.kept (iterAt_other wr (w.heap.size + 1) s (pos + K) g hgr)
      have hbel2 := hbel.trans (iterAt_below wr (w.heap.size + 1) s (pos + K) w.heap.size (by omega))
      generalize wr.iterAt (w.heap.size + 1) s (pos + K) = W2 at *
      have hr2 : w.heap.size + 1 < W2.heap.size := (Array.getElem?_eq_some_iff.1 hit2).1
      clear hst hR hK HP
      by_cases h32 : R = 32
      · subst h32
        rw [pstep, if_pos rfl] at hP
        obtain ⟨g', cap', W3, hrun, hown3, hg3⟩ := run_app hown2 (by omega) (by simp; omega) ⟨#[]⟩ (A + 1 + 1)
        have hg2 := hown2.lt
        have hit3 : W3.heap[w.heap.size + 1]? = some (.stringIter s (pos + K)) := by
          rw [hg3.block _ (by simp; omega) (by simp; omega), Below.heap_alloc _ _ _ (by omega)]
          exact hit2
        have hne3 : g' ≠ w.heap.size + 1 := fun e => by
          obtain ⟨cur, hc, _⟩ := hown3.row
          rw [e, hit3] at hc
          cases hc
        have hbel3 : Below w.heap.size w W3 := by
          refine Below.grown (hbel2.alloc (by omega) _) hg3 (by simp; omega) (fun k hk => ?_)
          cases hk
          exact hown2.base
        simp only [List.length_append, List.length_singleton] at hrun
        have hit3p : itPos W3 (w.heap.size + 1) = pos + K := by simp [itPos, hit3]
        clear hown hit
        have HRUN := Lib.hid hrun
        clear hrun
        go_wp2_with (at_builtin; refine wpList_append_run _ rfl _ _ _ _ rfl _ _ rfl rfl HRUN.out ?_)
        refine ⟨⟨pos + K, ps ++ [p], (⟨#[]⟩, A + 1 + 1), A + 1, g', cap', by simp, rfl, hown3, hit3, hne3, hbel3, ?_, ⟨by omega, by omega, by omega, by simp; omega, by simp; omega⟩, by show 0 ≤ _; omega⟩, by rw [hit3p, hitp]; omega⟩
        have e : A + 1 + 1 = A + 2 := by omega
        rw [e]
        exact Lib.hid hP
      · rw [pstep, if_neg h32, List.dropLast_concat, List.getLastD_concat] at hP
        have HP2 := Lib.hid hP
        obtain ⟨E, hE⟩ : ∃ E, Utf8.encode (R : Int) = E := ⟨_, rfl⟩
        have hEs : E.size ≤ 4 := by rw [← hE]; exact encode_small _
        have hix := fun W : World => run_part_addr W g (ps.length + 1) cap ps.length (by omega)
        have hc0 : W2.cell? ⟨g, 2 * ps.length, none⟩ = some (.string p.1) := by
          have := hown2.cell0 ps.length (by simp)
          simpa using this
        have hfz := hown2.free (2 * ps.length)
        have hown3 := hown2.set (p.1 ++ E)
        have h32' : ((R : Int) == 32) = false := by rw [beq_eq_false_iff_ne]; omega
        have hg2 := hown2.lt
        haveI : Old g W2 := ⟨hg2⟩
        have hit3 : (W2.setCell ⟨g, 2 * ps.length, none⟩ (.string (p.1 ++ E))).heap[w.heap.size + 1]? = some (.stringIter s (pos + K)) := by
          rw [Below.heap_setCell _ _ _ _ (by show w.heap.size + 1 ≠ g; omega)]
          exact hit2
        have hbel3 : Below w.heap.size w (W2.setCell ⟨g, 2 * ps.length, none⟩ (.string (p.1 ++ E))) := Below.setCell hbel2 hown2.base _
        have hit3p : itPos (W2.setCell ⟨g, 2 * ps.length, none⟩ (.string (p.1 ++ E))) (w.heap.size + 1) = pos + K := by simp [itPos, hit3]
        have H3 := Lib.hid hit3
        have H4 := Lib.hid hit3p
        clear hown hit hP hit3 hit3p hit2
        go_wp2_with fail
        refine ⟨⟨pos + K, ps, (p.1 ++ E, p.2), A + 1, g, cap, rfl, rfl, hown3, H3.out, hgr, hbel3, ?_, ⟨by omega, by omega, by omega, by omega, by omega⟩, by show (p.1 ++ E).size ≤ _; rw [cat_size]; omega⟩, by rw [H4.out, hitp]; omega⟩
        rw [← hE]
        exact HP2
    · have hP := HP.out
      rw [runesAt_end s pos (by omega)] at hP
      have hP2 : (ps ++ [p], A) = FIN := hP
      subst hP2
      obtain ⟨g', cap', W3, hrun, hown3, hg3⟩ := run_app hown (by omega) (by simp; omega) ⟨#[]⟩ (A + 1)
      have hbel3 : Below w.heap.size w W3 := by
        refine Below.grown (hbel.alloc (by omega) _) hg3 (by simp; omega) (fun k hk => ?_)
        cases hk
        exact hown.base
      have hend : (Instr.next (.pointer (some ⟨w.heap.size + 1, 0, none⟩)) true 0).run Try.prog wr = .ok (.tuple #[.bool false]) wr := by
        simp [Instr.next, getObj, Sem.run, hit, hlt]
      simp only [List.length_append, List.length_singleton] at hrun
      have HRUN := Lib.hid hrun
      clear hrun hit hown HP
      go_wp2_with (at_builtin; refine wpList_append_run _ rfl _ _ _ _ rfl _ _ rfl rfl HRUN.out ?_)
      go_ret
      refine ⟨g', cap', ?_, ?_, hbel3⟩
      · rw [HF.out]; simp
      · rw [HF.out]; exact hown3

end Go.Proofs.Ytajionjffijffaa

/-
  The sum of any text, what comes of any sum, its bytes, and a text's words, are the document's. For every sum, text and place to stop.
-/
import Derived.Test.YtnflakaphbjbhaaReadNo
namespace Go.Proofs.Ytnflakaphbjbhaa
open Go.RowKit Go.Sort Go.ChangeShapes Go.WideShapes Go.ChangeAt Go.Joins Go.ChangeMaps
attribute [local go_sem] Oper.semAt_some

/-- a result that lies in a cell of its own: one plain value -/
theorem results_cell_bool {fn : Func} {p : Tmp} (h : fn.results = #[.cell p 4]) (tmps : Array Value) (w : World) (g : Nat) (v : Value)
    (hp : tmps.getD p undef = .pointer (some ⟨g, 0, none⟩)) (hc : w.cell? ⟨g, 0, none⟩ = some v) : (results fn tmps).run Try.prog w = .ok v w := by
  have hp' : tmps[p]?.getD undef = .pointer (some ⟨g, 0, none⟩) := by simpa using hp
  have hl : (loadVar 4 ⟨g, 0, none⟩).run Try.prog w = .ok v w := by
    simp [loadVar, isAgg, run_underlying Try.underlying4, go_sem, hc]
  simp [results, h, hp', asAddr, hl]

theorem kept_seq (W W' : World) (g g' : Gr) (B : Nat) (hs : W'.heap.size = W.heap.size) (hB : B = W.heap.size) : Kept B (gr W g) (gr W' (g.seq g')) := by
  subst hB
  rw [← gr_gr]
  exact Kept.trans ⟨by rw [gr_size, gr_size]; omega, fun k hk _ => gr_heap_past _ _ g k hs (by omega)⟩ (Kept.gr _ _ _)

theorem words_next {p : ByteArray} {pre : List Nat} {x n : Nat} (h : pre ++ [x] <+: wordsTo p n) : pre.length < n ∧ x = wordAt p pre.length := by
  have hl := h.length_le
  have hn : (wordsTo p n).length = n := by simp [wordsTo]
  rw [hn, List.length_append, List.length_singleton] at hl
  refine ⟨hl, ?_⟩
  have e := h.getElem (i := pre.length) (by simp)
  simp [wordsTo] at e
  exact e

/-- the caller's world between two rounds -/
def plW (W : World) (p s : ByteArray) (k : Nat) : World :=
  (((W.alloc (.cells #[.string p] 9)).alloc (.cells #[.int .i64 ((4 * k : Nat) : Int)] 3)).alloc (.cells #[.int .i64 (k : Int)] 3)).alloc (.cells #[.string s] 9)
theorem plW_size (W : World) (p s : ByteArray) (k : Nat) : (plW W p s k).heap.size = W.heap.size + 4 := by simp [plW]

namespace FletchPlays

set_option maxRecDepth 20000 in
set_option maxHeartbeats 2000000 in
theorem walk (x : S4) (hx : x.ok) (s : ByteArray) (hs : s.size ≤ 9223372036854775807) (t : Nat) (ht : t < 256) :
    Pure Try.prog 7 #[x.v, .string s, .int .u8 (t : Int)] (.bool true) := by
  intro w
  by_cases hl : s.size ≤ 3000
  · have c1 := Sum4_any s (by omega)
    have c2 := SumRef_any s (by omega)
    have b1 := Bytes_any x
    have b2 := BytesRef_any x hx
    have m0 := fun h : s.size % 4 ≠ 0 => More_no x s h (by omega)
    have m1 := fun h : s.size % 4 = 0 => More_yes x hx s h (by omega)
    have m2 := MoreRef_any x s (by omega)
    have m2' : s.size % 4 = 0 → Pure Try.prog 17 #[x.v, .string s] (sums x (wordsL s)).v := fun h => by rw [pad4_id h] at m2; exact m2
    clear m2
    have cP := PadRef_any s (by omega)
    have hp4 := pad4_mod s
    have hpl : (pad4 s).size < 4611686018427387904 := by rw [pad4_size]; have := padN_lt s; omega
    obtain ⟨p, hp⟩ : ∃ p, pad4 s = p := ⟨_, rfl⟩
    rw [hp] at cP hp4 hpl
    have HP : Hid (wordsL (pad4 s) = wordsL p) := Lib.hid (by rw [hp])
    clear hp
    have r0 := fun h : s.size < 32 => Read_no s h
    have r1 := fun h : 32 ≤ s.size => Read_yes s h (by omega)
    have r2 := fun h : 32 ≤ s.size => BytesRead_any s h
    obtain ⟨⟨s0, s1, s2, s3⟩, hS⟩ : ∃ z, sum4 s = z := ⟨_, rfl⟩
    rw [hS] at c1 c2
    clear hS
    obtain ⟨⟨y0, y1, y2, y3⟩, hY⟩ : ∃ z, sums x (wordsL s) = z := ⟨_, rfl⟩
    rw [hY] at m1 m2'
    clear hY
    obtain ⟨⟨z0, z1, z2, z3⟩, hZ⟩ : ∃ z, rs s 4 = z := ⟨_, rfl⟩
    rw [hZ] at r1 r2
    clear hZ
    have q1 := fun W : World => run_neq_s4 W s0 s1 s2 s3 s0 s1 s2 s3
    have q2 := fun W : World => run_neq_s4 W y0 y1 y2 y3 y0 y1 y2 y3
    simp only [decide_true, Bool.not_true] at q1 q2
    have hBX : (bs x 4).size = 32 := bs_size x 4
    generalize bs x 4 = BX at *
    clear hx
    obtain ⟨x0, x1, x2, x3⟩ := x
    simp only [S4.v, S4.cs, zero4] at c1 c2 b1 b2 m0 m1 m2' r0 r1 r2 ⊢
    by_cases hA : s.size % 4 = 0
    · by_cases hB : 32 ≤ s.size
      · specialize m1 hA
        specialize m2' hA
        specialize r1 hB
        specialize r2 hB
        have hA1 : ((s.size : Int) % 4 == 0) = true := by simp only [beq_iff_eq]; omega
        have hB1 : decide ((s.size : Int) < 32) = false := by simp only [decide_eq_false_iff_not]; omega
        have hB2 : decide (32 ≤ (s.size : Int)) = true := by simp only [decide_eq_true_eq]; omega
        refine (callsIn_wide (n := 3)).1 ?_
        refine callsIn_of_wp_marks Try.func7 rfl trivial ?_ rfl
        simp only [Try.ntmps7, List.size_toArray, List.length_cons, List.length_nil, Nat.reduceAdd, Nat.reduceSub, Array.replicate_succ, Array.replicate_zero, List.push_toArray, List.append_toArray, List.nil_append, List.cons_append]
        refine wpIn_wide.2 ?_
        go_wp2_with (first | (go_at_call 8; with_reducible refine (awake_any.at _).mono ?_; rintro e w' ⟨rfl, g, rfl⟩))
        refine wp_region_gr2 (by kernel_rfl) (by kernel_rfl) ?_
        repeat (go_big_quiet_step (first | (with_reducible exact c1.inClass _ _) | (with_reducible exact c2.inClass _ _) | (with_reducible exact b1.inClass _ _) | (with_reducible exact b2.inClass _ _)))
        refine wpQuiet_nil ?_
        rintro _ ⟨g5, rfl⟩
        go_wp2_with (first | (go_at_call 11; with_reducible refine (m1.at _).mono ?_; rintro e w' ⟨rfl, g6, rfl⟩) | (go_at_call 13; refine (New_at _ _).mono ?_; rintro e w' ⟨rfl, rfl⟩) | (go_at_call 12; refine (r1 _).mono ?_; rintro e w' ⟨rfl, g7, rfl⟩))
        refine wp_region_gr (by kernel_rfl) (by kernel_rfl) ?_
        repeat (first | go_big_quiet_step (first | (with_reducible exact m2'.inClass _ _)) | simp only [hA1])
        refine wpQuiet_nil ?_
        rintro _ ⟨g8, rfl⟩
        go_wp2_with (first | (go_at_call 13; refine (New_at _ _).mono ?_; rintro e w' ⟨rfl, rfl⟩) | (go_at_call 12; refine (r1 _).mono ?_; rintro e w' ⟨rfl, g7, rfl⟩))
        refine wp_region_gr (by kernel_rfl) (by kernel_rfl) ?_
        repeat (first | go_big_quiet_step (first | (with_reducible exact r2.inClass _ _)) | simp only [hB1, hB2])
        refine wpQuiet_nil ?_
        rintro _ ⟨g9, rfl⟩
        go_wp2_with (first | (go_at_call 18; with_reducible refine (cP.at _).mono ?_; rintro e w' ⟨rfl, g10, rfl⟩) | (go_at_call 19; refine (Words_at _ _).mono ?_; rintro e w' ⟨rfl, rfl⟩))
        generalize hW1 : gr (((w.alloc _).alloc _).alloc _) _ = W1
        generalize hW2 : gr (W1.alloc _) _ = W2
        generalize hW3 : gr (W2.alloc _) _ = W3
        have hb3 : Below w.heap.size w W3 := by
          subst hW3; subst hW2; subst hW1; (repeat' (first | (with_reducible exact Below.refl _ _) | (with_reducible refine belowGrU ?_ _) | (with_reducible refine belowAlloc ?_ _) | (with_reducible refine Below.setCell ?_ ?_ _) | (with_reducible refine Below.drew ?_) | (simp [go_sem]; done) | (simp [go_sem]; omega)))
        have o1 : Old (w.heap.size + 1) W3 := by
          subst hW3; subst hW2; subst hW1; exact inferInstance
        have o2 : Old (w.heap.size + 1 + 1) W3 := by
          subst hW3; subst hW2; subst hW1; exact inferInstance
        have k1 : W3.cell? ⟨w.heap.size + 1, 0, none⟩ = some (.int .u8 (t : Int)) := by
          subst hW3; subst hW2; subst hW1; simp [go_sem]
        have k2 : W3.cell? ⟨w.heap.size + 1 + 1, 0, none⟩ = some (.bool false) := by
          subst hW3; subst hW2; subst hW1; simp [go_sem]
        have k3 : W3.frozen? ⟨w.heap.size + 1 + 1, 0, none⟩ = false := by
          subst hW3; subst hW2; subst hW1; simp [go_sem]
        clear hW3
        clear hW2
        clear hW1
        haveI u0 : Upto w.heap.size W3 := ⟨hb3.size⟩
        have hT : (W3.setCell ⟨w.heap.size + 1 + 1, 0, none⟩ (.bool true)).cell? ⟨w.heap.size + 1 + 1, 0, none⟩ = some (.bool true) := by
          simp [go_sem, k2]
        have hbT : Below w.heap.size w (W3.setCell ⟨w.heap.size + 1 + 1, 0, none⟩ (.bool true)) := Below.setCell hb3 (by show w.heap.size ≤ w.heap.size + 1 + 1; omega) _
        have hfin : ∀ (k D : Nat) (g : Gr), W3.heap.size + 4 ≤ D → (gr (plW (W3.setCell ⟨w.heap.size + 1 + 1, 0, none⟩ (.bool true)) p s k) g).heap[D]? = some (.deferred (some [])) →
            ((gr (plW (W3.setCell ⟨w.heap.size + 1 + 1, 0, none⟩ (.bool true)) p s k) g).putObj D (.deferred none)).cell? ⟨w.heap.size + 1 + 1, 0, none⟩ = some (.bool true) ∧
            Below w.heap.size w ((gr (plW (W3.setCell ⟨w.heap.size + 1 + 1, 0, none⟩ (.bool true)) p s k) g).putObj D (.deferred none)) := fun k D g hD hK => by
          have h2 := o2.h
          have hb2 : Below w.heap.size w (gr (plW (W3.setCell ⟨w.heap.size + 1 + 1, 0, none⟩ (.bool true)) p s k) g) := by
            unfold plW
            exact belowGrU (belowAlloc (belowAlloc (belowAlloc (belowAlloc hbT _) _) _) _) _
          refine ⟨?_, hb2.trans (below_put _ D _ _ (by omega) hK hb2.size)⟩
          rw [World.cell?_of_block (World.putObj_heap_other (by show w.heap.size + 1 + 1 ≠ D; omega))]
          unfold plW
          simp only [go_sem, hT]
        have hW0 : Hid (((((W3.alloc (.cells #[.string p] 9)).alloc (.cells #[.int .i64 0] 3)).alloc (.cells #[.int .i64 0] 3)).alloc (.cells #[.string s] 9)) = plW W3 p s 0) := rfl
        rw [hW0.out]
        refine (wpIn_wide (n := 3)).1 ?_
        have hI : From (plW W3 p s 0).heap.size (fun (pre : List Nat) W => ∃ g : Gr, W = gr (plW W3 p s pre.length) g) :=
          from_gr (fun pre : List Nat => plW W3 p s pre.length) (fun _ => by rw [plW_size, plW_size])
        have hIx : ∀ c : Code, From (plW W3 p s 0).heap.size (fun (pre : List Nat) W => c = .ret ∧ ∃ g : Gr, W = gr (plW (W3.setCell ⟨w.heap.size + 1 + 1, 0, none⟩ (.bool true)) p s pre.length) g) :=
          fun c => from_and (from_pure _) (from_gr (fun pre : List Nat => plW (W3.setCell ⟨w.heap.size + 1 + 1, 0, none⟩ (.bool true)) p s pre.length) (fun _ => by rw [plW_size, plW_size, World.size_setCell]))
        have hseq := Words1_own s (by omega) (W3.heap.size + 1 + 1 + 1) (plW W3 p s 0) (by rw [plW_size]; omega) (by simp [plW, go_sem])
        apply wpIn_range_own (w := plW W3 p s 0) (gf := 26) (lb := #[.pointer (some ⟨W3.heap.size + 1 + 1 + 1, 0, none⟩)]) rfl eg_words1
          hseq (Below.refl _ _) (fun _ => rfl) _ _ hI hIx (ex_gr _)
        case hassign =>
          intro l m x W K hK
          gi_wp2
          exact hK
        case hbody =>
          rintro l m pre x W ⟨g, rfl⟩ ⟨xs, hxs, hpre⟩
          rw [hxs, HP.out] at hpre
          obtain ⟨hlt, rfl⟩ := words_next hpre
          have hlen : ∀ y, (pre ++ [y]).length = pre.length + 1 := fun y => by simp
          clear hpre hxs
          obtain ⟨k, hk⟩ : ∃ k, pre.length = k := ⟨_, rfl⟩
          rw [hk] at hlt ⊢
          have h4 : 4 * k + 4 ≤ p.size := by unfold nwords at hlt; omega
          have cN := CutNumber_any p k h4
          have hcut : p.extract (4 * k) (4 * k + 4) = cut4 p k := rfl
          have hcs := cut4_size h4
          generalize wordAt p k = X at *
          have hlen := hlen X
          rw [hk] at hlen
          have HL := Lib.hid hlen
          clear hlen hk
          generalize cut4 p k = C at *
          have hm : plW W3 p s k = (((W3.alloc (.cells #[.string p] 9)).alloc (.cells #[.int .i64 (4 * (k : Int))] 3)).alloc (.cells #[.int .i64 (k : Int)] 3)).alloc (.cells #[.string s] 9) := rfl
          have hn : ∀ W : World, plW W p s (k + 1) = (((W.alloc (.cells #[.string p] 9)).alloc (.cells #[.int .i64 (4 * (k : Int) + 4)] 3)).alloc (.cells #[.int .i64 ((k : Int) + 1)] 3)).alloc (.cells #[.string s] 9) := fun W => by
            have e1 : ((4 * (k + 1) : Nat) : Int) = 4 * (k : Int) + 4 := by omega
            have e2 : ((k + 1 : Nat) : Int) = (k : Int) + 1 := by omega
            simp only [plW, e1, e2]
          rw [hm]
          have HN := Lib.hid hn
          clear hn hm
          gi_wp2_with (refine ⟨trivial, fun h => (by simp [Fence.wide] at h), ?_⟩; refine (CallsIn.inRound l (callsIn_wide.2 (cN.at _))).mono ?_; rintro e w' ⟨rfl, g1, rfl⟩)
          · exact ⟨kept_seq _ _ _ _ _ (by simp) (by simp [plW]), rfl, _, by rw [HL.out, HN.out]⟩
          · exact ⟨kept_seq _ _ _ _ _ (by simp) (by simp [plW]), _, by rw [HL.out, HN.out]⟩
        case hdone =>
          rintro D xs W hD hxs ⟨g, rfl⟩ hK
          rw [plW_size] at hD
          have hln : xs.length = nwords p := by rw [hxs, HP.out]; simp [wordsL, wordsTo]
          have hz : 4 * nwords p = p.size := by unfold nwords; omega
          rw [hln] at hK ⊢
          have hm : ∀ W : World, plW W p s (nwords p) = (((W.alloc (.cells #[.string p] 9)).alloc (.cells #[.int .i64 (p.size : Int)] 3)).alloc (.cells #[.int .i64 (nwords p : Int)] 3)).alloc (.cells #[.string s] 9) := fun W => by simp only [plW, hz]
          have hK2 : (gr ((((W3.setCell ⟨w.heap.size + 1 + 1, 0, none⟩ (.bool true)).alloc (.cells #[.string p] 9)).alloc (.cells #[.int .i64 (p.size : Int)] 3)).alloc (.cells #[.int .i64 (nwords p : Int)] 3) |>.alloc (.cells #[.string s] 9)) g).heap[D]? = some (.deferred (some [])) := by
            rw [← hm, ← hK]
            exact gr_heap_past _ _ g D (by rw [plW_size, plW_size, World.size_setCell]) (by rw [plW_size, World.size_setCell]; exact hD)
          rw [hm]
          have HK := Lib.hid hK2
          have HM := Lib.hid hm
          clear hK hK2 hm hxs hln
          go_wp2_with fail
          refine ⟨by simp, .inl ⟨_, _, rfl, run_takeDeferred HK.out, ?_⟩⟩
          have hF := HK.out
          rw [← HM.out] at hF ⊢
          have hF := hfin _ _ _ hD hF
          exact ⟨_, results_cell_bool rfl _ _ (w.heap.size + 1 + 1) _ rfl hF.1, rfl, hF.2⟩
        case hstop =>
          rintro D c pre W hD _ ⟨rfl, g, rfl⟩ hK
          rw [plW_size] at hD
          refine wpIn_wide.2 ?_
          generalize pre.length = k at hK ⊢
          have HK := Lib.hid hK
          clear hK
          go_wp2_with fail
          refine ⟨by simp, .inl ⟨_, _, rfl, run_takeDeferred HK.out, ?_⟩⟩
          have hF := hfin _ _ _ hD HK.out
          exact ⟨_, results_cell_bool rfl _ _ (w.heap.size + 1 + 1) _ rfl hF.1, rfl, hF.2⟩
      · specialize m1 hA
        specialize m2' hA
        specialize r0 (by omega)
        have hA1 : ((s.size : Int) % 4 == 0) = true := by simp only [beq_iff_eq]; omega
        have hB1 : decide ((s.size : Int) < 32) = true := by simp only [decide_eq_true_eq]; omega
        have hB2 : decide (32 ≤ (s.size : Int)) = false := by simp only [decide_eq_false_iff_not]; omega
        refine (callsIn_wide (n := 3)).1 ?_
        refine callsIn_of_wp_marks Try.func7 rfl trivial ?_ rfl
        simp only [Try.ntmps7, List.size_toArray, List.length_cons, List.length_nil, Nat.reduceAdd, Nat.reduceSub, Array.replicate_succ, Array.replicate_zero, List.push_toArray, List.append_toArray, List.nil_append, List.cons_append]
        refine wpIn_wide.2 ?_
        go_wp2_with (first | (go_at_call 8; with_reducible refine (awake_any.at _).mono ?_; rintro e w' ⟨rfl, g, rfl⟩))
        refine wp_region_gr2 (by kernel_rfl) (by kernel_rfl) ?_
        repeat (go_big_quiet_step (first | (with_reducible exact c1.inClass _ _) | (with_reducible exact c2.inClass _ _) | (with_reducible exact b1.inClass _ _) | (with_reducible exact b2.inClass _ _)))
        refine wpQuiet_nil ?_
        rintro _ ⟨g5, rfl⟩
        go_wp2_with (first | (go_at_call 11; with_reducible refine (m1.at _).mono ?_; rintro e w' ⟨rfl, g6, rfl⟩) | (go_at_call 13; refine (New_at _ _).mono ?_; rintro e w' ⟨rfl, rfl⟩) | (go_at_call 12; refine (r0 _).mono ?_; rintro e w' ⟨rfl, g7, rfl⟩))
        refine wp_region_gr (by kernel_rfl) (by kernel_rfl) ?_
        repeat (first | go_big_quiet_step (first | (with_reducible exact m2'.inClass _ _)) | simp only [hA1])
        refine wpQuiet_nil ?_
        rintro _ ⟨g8, rfl⟩
        go_wp2_with (first | (go_at_call 13; refine (New_at _ _).mono ?_; rintro e w' ⟨rfl, rfl⟩) | (go_at_call 12; refine (r0 _).mono ?_; rintro e w' ⟨rfl, g7, rfl⟩))
        refine wp_region_gr (by kernel_rfl) (by kernel_rfl) ?_
        repeat (first | go_big_quiet_step (fail) | simp only [hB1, hB2])
        refine wpQuiet_nil ?_
        rintro _ ⟨g9, rfl⟩
        go_wp2_with (first | (go_at_call 18; with_reducible refine (cP.at _).mono ?_; rintro e w' ⟨rfl, g10, rfl⟩) | (go_at_call 19; refine (Words_at _ _).mono ?_; rintro e w' ⟨rfl, rfl⟩))
        generalize hW1 : gr (((w.alloc _).alloc _).alloc _) _ = W1
        generalize hW2 : gr (W1.alloc _) _ = W2
        generalize hW3 : gr (W2.alloc _) _ = W3
        have hb3 : Below w.heap.size w W3 := by
          subst hW3; subst hW2; subst hW1; (repeat' (first | (with_reducible exact Below.refl _ _) | (with_reducible refine belowGrU ?_ _) | (with_reducible refine belowAlloc ?_ _) | (with_reducible refine Below.setCell ?_ ?_ _) | (with_reducible refine Below.drew ?_) | (simp [go_sem]; done) | (simp [go_sem]; omega)))
        have o1 : Old (w.heap.size + 1) W3 := by
          subst hW3; subst hW2; subst hW1; exact inferInstance
        have o2 : Old (w.heap.size + 1 + 1) W3 := by
          subst hW3; subst hW2; subst hW1; exact inferInstance
        have k1 : W3.cell? ⟨w.heap.size + 1, 0, none⟩ = some (.int .u8 (t : Int)) := by
          subst hW3; subst hW2; subst hW1; simp [go_sem]
        have k2 : W3.cell? ⟨w.heap.size + 1 + 1, 0, none⟩ = some (.bool false) := by
          subst hW3; subst hW2; subst hW1; simp [go_sem]
        have k3 : W3.frozen? ⟨w.heap.size + 1 + 1, 0, none⟩ = false := by
          subst hW3; subst hW2; subst hW1; simp [go_sem]
        clear hW3
        clear hW2
        clear hW1
        haveI u0 : Upto w.heap.size W3 := ⟨hb3.size⟩
        have hT : (W3.setCell ⟨w.heap.size + 1 + 1, 0, none⟩ (.bool true)).cell? ⟨w.heap.size + 1 + 1, 0, none⟩ = some (.bool true) := by
          simp [go_sem, k2]
        have hbT : Below w.heap.size w (W3.setCell ⟨w.heap.size + 1 + 1, 0, none⟩ (.bool true)) := Below.setCell hb3 (by show w.heap.size ≤ w.heap.size + 1 + 1; omega) _
        have hfin : ∀ (k D : Nat) (g : Gr), W3.heap.size + 4 ≤ D → (gr (plW (W3.setCell ⟨w.heap.size + 1 + 1, 0, none⟩ (.bool true)) p s k) g).heap[D]? = some (.deferred (some [])) →
            ((gr (plW (W3.setCell ⟨w.heap.size + 1 + 1, 0, none⟩ (.bool true)) p s k) g).putObj D (.deferred none)).cell? ⟨w.heap.size + 1 + 1, 0, none⟩ = some (.bool true) ∧
            Below w.heap.size w ((gr (plW (W3.setCell ⟨w.heap.size + 1 + 1, 0, none⟩ (.bool true)) p s k) g).putObj D (.deferred none)) := fun k D g hD hK => by
          have h2 := o2.h
          have hb2 : Below w.heap.size w (gr (plW (W3.setCell ⟨w.heap.size + 1 + 1, 0, none⟩ (.bool true)) p s k) g) := by
            unfold plW
            exact belowGrU (belowAlloc (belowAlloc (belowAlloc (belowAlloc hbT _) _) _) _) _
          refine ⟨?_, hb2.trans (below_put _ D _ _ (by omega) hK hb2.size)⟩
          rw [World.cell?_of_block (World.putObj_heap_other (by show w.heap.size + 1 + 1 ≠ D; omega))]
          unfold plW
          simp only [go_sem, hT]
        have hW0 : Hid (((((W3.alloc (.cells #[.string p] 9)).alloc (.cells #[.int .i64 0] 3)).alloc (.cells #[.int .i64 0] 3)).alloc (.cells #[.string s] 9)) = plW W3 p s 0) := rfl
        rw [hW0.out]
        refine (wpIn_wide (n := 3)).1 ?_
        have hI : From (plW W3 p s 0).heap.size (fun (pre : List Nat) W => ∃ g : Gr, W = gr (plW W3 p s pre.length) g) :=
          from_gr (fun pre : List Nat => plW W3 p s pre.length) (fun _ => by rw [plW_size, plW_size])
        have hIx : ∀ c : Code, From (plW W3 p s 0).heap.size (fun (pre : List Nat) W => c = .ret ∧ ∃ g : Gr, W = gr (plW (W3.setCell ⟨w.heap.size + 1 + 1, 0, none⟩ (.bool true)) p s pre.length) g) :=
          fun c => from_and (from_pure _) (from_gr (fun pre : List Nat => plW (W3.setCell ⟨w.heap.size + 1 + 1, 0, none⟩ (.bool true)) p s pre.length) (fun _ => by rw [plW_size, plW_size, World.size_setCell]))
        have hseq := Words1_own s (by omega) (W3.heap.size + 1 + 1 + 1) (plW W3 p s 0) (by rw [plW_size]; omega) (by simp [plW, go_sem])
        apply wpIn_range_own (w := plW W3 p s 0) (gf := 26) (lb := #[.pointer (some ⟨W3.heap.size + 1 + 1 + 1, 0, none⟩)]) rfl eg_words1
          hseq (Below.refl _ _) (fun _ => rfl) _ _ hI hIx (ex_gr _)
        case hassign =>
          intro l m x W K hK
          gi_wp2
          exact hK
        case hbody =>
          rintro l m pre x W ⟨g, rfl⟩ ⟨xs, hxs, hpre⟩
          rw [hxs, HP.out] at hpre
          obtain ⟨hlt, rfl⟩ := words_next hpre
          have hlen : ∀ y, (pre ++ [y]).length = pre.length + 1 := fun y => by simp
          clear hpre hxs
          obtain ⟨k, hk⟩ : ∃ k, pre.length = k := ⟨_, rfl⟩
          rw [hk] at hlt ⊢
          have h4 : 4 * k + 4 ≤ p.size := by unfold nwords at hlt; omega
          have cN := CutNumber_any p k h4
          have hcut : p.extract (4 * k) (4 * k + 4) = cut4 p k := rfl
          have hcs := cut4_size h4
          generalize wordAt p k = X at *
          have hlen := hlen X
          rw [hk] at hlen
          have HL := Lib.hid hlen
          clear hlen hk
          generalize cut4 p k = C at *
          have hm : plW W3 p s k = (((W3.alloc (.cells #[.string p] 9)).alloc (.cells #[.int .i64 (4 * (k : Int))] 3)).alloc (.cells #[.int .i64 (k : Int)] 3)).alloc (.cells #[.string s] 9) := rfl
          have hn : ∀ W : World, plW W p s (k + 1) = (((W.alloc (.cells #[.string p] 9)).alloc (.cells #[.int .i64 (4 * (k : Int) + 4)] 3)).alloc (.cells #[.int .i64 ((k : Int) + 1)] 3)).alloc (.cells #[.string s] 9) := fun W => by
            have e1 : ((4 * (k + 1) : Nat) : Int) = 4 * (k : Int) + 4 := by omega
            have e2 : ((k + 1 : Nat) : Int) = (k : Int) + 1 := by omega
            simp only [plW, e1, e2]
          rw [hm]
          have HN := Lib.hid hn
          clear hn hm
          gi_wp2_with (refine ⟨trivial, fun h => (by simp [Fence.wide] at h), ?_⟩; refine (CallsIn.inRound l (callsIn_wide.2 (cN.at _))).mono ?_; rintro e w' ⟨rfl, g1, rfl⟩)
          · exact ⟨kept_seq _ _ _ _ _ (by simp) (by simp [plW]), rfl, _, by rw [HL.out, HN.out]⟩
          · exact ⟨kept_seq _ _ _ _ _ (by simp) (by simp [plW]), _, by rw [HL.out, HN.out]⟩
        case hdone =>
          rintro D xs W hD hxs ⟨g, rfl⟩ hK
          rw [plW_size] at hD
          have hln : xs.length = nwords p := by rw [hxs, HP.out]; simp [wordsL, wordsTo]
          have hz : 4 * nwords p = p.size := by unfold nwords; omega
          rw [hln] at hK ⊢
          have hm : ∀ W : World, plW W p s (nwords p) = (((W.alloc (.cells #[.string p] 9)).alloc (.cells #[.int .i64 (p.size : Int)] 3)).alloc (.cells #[.int .i64 (nwords p : Int)] 3)).alloc (.cells #[.string s] 9) := fun W => by simp only [plW, hz]
          have hK2 : (gr ((((W3.setCell ⟨w.heap.size + 1 + 1, 0, none⟩ (.bool true)).alloc (.cells #[.string p] 9)).alloc (.cells #[.int .i64 (p.size : Int)] 3)).alloc (.cells #[.int .i64 (nwords p : Int)] 3) |>.alloc (.cells #[.string s] 9)) g).heap[D]? = some (.deferred (some [])) := by
            rw [← hm, ← hK]
            exact gr_heap_past _ _ g D (by rw [plW_size, plW_size, World.size_setCell]) (by rw [plW_size, World.size_setCell]; exact hD)
          rw [hm]
          have HK := Lib.hid hK2
          have HM := Lib.hid hm
          clear hK hK2 hm hxs hln
          go_wp2_with fail
          refine ⟨by simp, .inl ⟨_, _, rfl, run_takeDeferred HK.out, ?_⟩⟩
          have hF := HK.out
          rw [← HM.out] at hF ⊢
          have hF := hfin _ _ _ hD hF
          exact ⟨_, results_cell_bool rfl _ _ (w.heap.size + 1 + 1) _ rfl hF.1, rfl, hF.2⟩
        case hstop =>
          rintro D c pre W hD _ ⟨rfl, g, rfl⟩ hK
          rw [plW_size] at hD
          refine wpIn_wide.2 ?_
          generalize pre.length = k at hK ⊢
          have HK := Lib.hid hK
          clear hK
          go_wp2_with fail
          refine ⟨by simp, .inl ⟨_, _, rfl, run_takeDeferred HK.out, ?_⟩⟩
          have hF := hfin _ _ _ hD HK.out
          exact ⟨_, results_cell_bool rfl _ _ (w.heap.size + 1 + 1) _ rfl hF.1, rfl, hF.2⟩
    · by_cases hB : 32 ≤ s.size
      · specialize m0 hA
        specialize r1 hB
        specialize r2 hB
        have hA1 : ((s.size : Int) % 4 == 0) = false := by simp only [beq_eq_false_iff_ne, ne_eq]; omega
        have hB1 : decide ((s.size : Int) < 32) = false := by simp only [decide_eq_false_iff_not]; omega
        have hB2 : decide (32 ≤ (s.size : Int)) = true := by simp only [decide_eq_true_eq]; omega
        refine (callsIn_wide (n := 3)).1 ?_
        refine callsIn_of_wp_marks Try.func7 rfl trivial ?_ rfl
        simp only [Try.ntmps7, List.size_toArray, List.length_cons, List.length_nil, Nat.reduceAdd, Nat.reduceSub, Array.replicate_succ, Array.replicate_zero, List.push_toArray, List.append_toArray, List.nil_append, List.cons_append]
        refine wpIn_wide.2 ?_
        go_wp2_with (first | (go_at_call 8; with_reducible refine (awake_any.at _).mono ?_; rintro e w' ⟨rfl, g, rfl⟩))
        refine wp_region_gr2 (by kernel_rfl) (by kernel_rfl) ?_
        repeat (go_big_quiet_step (first | (with_reducible exact c1.inClass _ _) | (with_reducible exact c2.inClass _ _) | (with_reducible exact b1.inClass _ _) | (with_reducible exact b2.inClass _ _)))
        refine wpQuiet_nil ?_
        rintro _ ⟨g5, rfl⟩
        go_wp2_with (first | (go_at_call 11; with_reducible refine (m0.at _).mono ?_; rintro e w' ⟨rfl, g6, rfl⟩) | (go_at_call 13; refine (New_at _ _).mono ?_; rintro e w' ⟨rfl, rfl⟩) | (go_at_call 12; refine (r1 _).mono ?_; rintro e w' ⟨rfl, g7, rfl⟩))
        refine wp_region_gr (by kernel_rfl) (by kernel_rfl) ?_
        repeat (first | go_big_quiet_step (fail) | simp only [hA1])
        refine wpQuiet_nil ?_
        rintro _ ⟨g8, rfl⟩
        go_wp2_with (first | (go_at_call 13; refine (New_at _ _).mono ?_; rintro e w' ⟨rfl, rfl⟩) | (go_at_call 12; refine (r1 _).mono ?_; rintro e w' ⟨rfl, g7, rfl⟩))
        refine wp_region_gr (by kernel_rfl) (by kernel_rfl) ?_
        repeat (first | go_big_quiet_step (first | (with_reducible exact r2.inClass _ _)) | simp only [hB1, hB2])
        refine wpQuiet_nil ?_
        rintro _ ⟨g9, rfl⟩
        go_wp2_with (first | (go_at_call 18; with_reducible refine (cP.at _).mono ?_; rintro e w' ⟨rfl, g10, rfl⟩) | (go_at_call 19; refine (Words_at _ _).mono ?_; rintro e w' ⟨rfl, rfl⟩))
        generalize hW1 : gr (((w.alloc _).alloc _).alloc _) _ = W1
        generalize hW2 : gr (W1.alloc _) _ = W2
        generalize hW3 : gr (W2.alloc _) _ = W3
        have hb3 : Below w.heap.size w W3 := by
          subst hW3; subst hW2; subst hW1; (repeat' (first | (with_reducible exact Below.refl _ _) | (with_reducible refine belowGrU ?_ _) | (with_reducible refine belowAlloc ?_ _) | (with_reducible refine Below.setCell ?_ ?_ _) | (with_reducible refine Below.drew ?_) | (simp [go_sem]; done) | (simp [go_sem]; omega)))
        have o1 : Old (w.heap.size + 1) W3 := by
          subst hW3; subst hW2; subst hW1; exact inferInstance
        have o2 : Old (w.heap.size + 1 + 1) W3 := by
          subst hW3; subst hW2; subst hW1; exact inferInstance
        have k1 : W3.cell? ⟨w.heap.size + 1, 0, none⟩ = some (.int .u8 (t : Int)) := by
          subst hW3; subst hW2; subst hW1; simp [go_sem]
        have k2 : W3.cell? ⟨w.heap.size + 1 + 1, 0, none⟩ = some (.bool false) := by
          subst hW3; subst hW2; subst hW1; simp [go_sem]
        have k3 : W3.frozen? ⟨w.heap.size + 1 + 1, 0, none⟩ = false := by
          subst hW3; subst hW2; subst hW1; simp [go_sem]
        clear hW3
        clear hW2
        clear hW1
        haveI u0 : Upto w.heap.size W3 := ⟨hb3.size⟩
        have hT : (W3.setCell ⟨w.heap.size + 1 + 1, 0, none⟩ (.bool true)).cell? ⟨w.heap.size + 1 + 1, 0, none⟩ = some (.bool true) := by
          simp [go_sem, k2]
        have hbT : Below w.heap.size w (W3.setCell ⟨w.heap.size + 1 + 1, 0, none⟩ (.bool true)) := Below.setCell hb3 (by show w.heap.size ≤ w.heap.size + 1 + 1; omega) _
        have hfin : ∀ (k D : Nat) (g : Gr), W3.heap.size + 4 ≤ D → (gr (plW (W3.setCell ⟨w.heap.size + 1 + 1, 0, none⟩ (.bool true)) p s k) g).heap[D]? = some (.deferred (some [])) →
            ((gr (plW (W3.setCell ⟨w.heap.size + 1 + 1, 0, none⟩ (.bool true)) p s k) g).putObj D (.deferred none)).cell? ⟨w.heap.size + 1 + 1, 0, none⟩ = some (.bool true) ∧
            Below w.heap.size w ((gr (plW (W3.setCell ⟨w.heap.size + 1 + 1, 0, none⟩ (.bool true)) p s k) g).putObj D (.deferred none)) := fun k D g hD hK => by
          have h2 := o2.h
          have hb2 : Below w.heap.size w (gr (plW (W3.setCell ⟨w.heap.size + 1 + 1, 0, none⟩ (.bool true)) p s k) g) := by
            unfold plW
            exact belowGrU (belowAlloc (belowAlloc (belowAlloc (belowAlloc hbT _) _) _) _) _
          refine ⟨?_, hb2.trans (below_put _ D _ _ (by omega) hK hb2.size)⟩
          rw [World.cell?_of_block (World.putObj_heap_other (by show w.heap.size + 1 + 1 ≠ D; omega))]
          unfold plW
          simp only [go_sem, hT]
        have hW0 : Hid (((((W3.alloc (.cells #[.string p] 9)).alloc (.cells #[.int .i64 0] 3)).alloc (.cells #[.int .i64 0] 3)).alloc (.cells #[.string s] 9)) = plW W3 p s 0) := rfl
        rw [hW0.out]
        refine (wpIn_wide (n := 3)).1 ?_
        have hI : From (plW W3 p s 0).heap.size (fun (pre : List Nat) W => ∃ g : Gr, W = gr (plW W3 p s pre.length) g) :=
          from_gr (fun pre : List Nat => plW W3 p s pre.length) (fun _ => by rw [plW_size, plW_size])
        have hIx : ∀ c : Code, From (plW W3 p s 0).heap.size (fun (pre : List Nat) W => c = .ret ∧ ∃ g : Gr, W = gr (plW (W3.setCell ⟨w.heap.size + 1 + 1, 0, none⟩ (.bool true)) p s pre.length) g) :=
          fun c => from_and (from_pure _) (from_gr (fun pre : List Nat => plW (W3.setCell ⟨w.heap.size + 1 + 1, 0, none⟩ (.bool true)) p s pre.length) (fun _ => by rw [plW_size, plW_size, World.size_setCell]))
        have hseq := Words1_own s (by omega) (W3.heap.size + 1 + 1 + 1) (plW W3 p s 0) (by rw [plW_size]; omega) (by simp [plW, go_sem])
        apply wpIn_range_own (w := plW W3 p s 0) (gf := 26) (lb := #[.pointer (some ⟨W3.heap.size + 1 + 1 + 1, 0, none⟩)]) rfl eg_words1
          hseq (Below.refl _ _) (fun _ => rfl) _ _ hI hIx (ex_gr _)
        case hassign =>
          intro l m x W K hK
          gi_wp2
          exact hK
        case hbody =>
          rintro l m pre x W ⟨g, rfl⟩ ⟨xs, hxs, hpre⟩
          rw [hxs, HP.out] at hpre
          obtain ⟨hlt, rfl⟩ := words_next hpre
          have hlen : ∀ y, (pre ++ [y]).length = pre.length + 1 := fun y => by simp
          clear hpre hxs
          obtain ⟨k, hk⟩ : ∃ k, pre.length = k := ⟨_, rfl⟩
          rw [hk] at hlt ⊢
          have h4 : 4 * k + 4 ≤ p.size := by unfold nwords at hlt; omega
          have cN := CutNumber_any p k h4
          have hcut : p.extract (4 * k) (4 * k + 4) = cut4 p k := rfl
          have hcs := cut4_size h4
          generalize wordAt p k = X at *
          have hlen := hlen X
          rw [hk] at hlen
          have HL := Lib.hid hlen
          clear hlen hk
          generalize cut4 p k = C at *
          have hm : plW W3 p s k = (((W3.alloc (.cells #[.string p] 9)).alloc (.cells #[.int .i64 (4 * (k : Int))] 3)).alloc (.cells #[.int .i64 (k : Int)] 3)).alloc (.cells #[.string s] 9) := rfl
          have hn : ∀ W : World, plW W p s (k + 1) = (((W.alloc (.cells #[.string p] 9)).alloc (.cells #[.int .i64 (4 * (k : Int) + 4)] 3)).alloc (.cells #[.int .i64 ((k : Int) + 1)] 3)).alloc (.cells #[.string s] 9) := fun W => by
            have e1 : ((4 * (k + 1) : Nat) : Int) = 4 * (k : Int) + 4 := by omega
            have e2 : ((k + 1 : Nat) : Int) = (k : Int) + 1 := by omega
            simp only [plW, e1, e2]
          rw [hm]
          have HN := Lib.hid hn
          clear hn hm
          gi_wp2_with (refine ⟨trivial, fun h => (by simp [Fence.wide] at h), ?_⟩; refine (CallsIn.inRound l (callsIn_wide.2 (cN.at _))).mono ?_; rintro e w' ⟨rfl, g1, rfl⟩)
          · exact ⟨kept_seq _ _ _ _ _ (by simp) (by simp [plW]), rfl, _, by rw [HL.out, HN.out]⟩
          · exact ⟨kept_seq _ _ _ _ _ (by simp) (by simp [plW]), _, by rw [HL.out, HN.out]⟩
        case hdone =>
          rintro D xs W hD hxs ⟨g, rfl⟩ hK
          rw [plW_size] at hD
          have hln : xs.length = nwords p := by rw [hxs, HP.out]; simp [wordsL, wordsTo]
          have hz : 4 * nwords p = p.size := by unfold nwords; omega
          rw [hln] at hK ⊢
          have hm : ∀ W : World, plW W p s (nwords p) = (((W.alloc (.cells #[.string p] 9)).alloc (.cells #[.int .i64 (p.size : Int)] 3)).alloc (.cells #[.int .i64 (nwords p : Int)] 3)).alloc (.cells #[.string s] 9) := fun W => by simp only [plW, hz]
          have hK2 : (gr ((((W3.setCell ⟨w.heap.size + 1 + 1, 0, none⟩ (.bool true)).alloc (.cells #[.string p] 9)).alloc (.cells #[.int .i64 (p.size : Int)] 3)).alloc (.cells #[.int .i64 (nwords p : Int)] 3) |>.alloc (.cells #[.string s] 9)) g).heap[D]? = some (.deferred (some [])) := by
            rw [← hm, ← hK]
            exact gr_heap_past _ _ g D (by rw [plW_size, plW_size, World.size_setCell]) (by rw [plW_size, World.size_setCell]; exact hD)
          rw [hm]
          have HK := Lib.hid hK2
          have HM := Lib.hid hm
          clear hK hK2 hm hxs hln
          go_wp2_with fail
          refine ⟨by simp, .inl ⟨_, _, rfl, run_takeDeferred HK.out, ?_⟩⟩
          have hF := HK.out
          rw [← HM.out] at hF ⊢
          have hF := hfin _ _ _ hD hF
          exact ⟨_, results_cell_bool rfl _ _ (w.heap.size + 1 + 1) _ rfl hF.1, rfl, hF.2⟩
        case hstop =>
          rintro D c pre W hD _ ⟨rfl, g, rfl⟩ hK
          rw [plW_size] at hD
          refine wpIn_wide.2 ?_
          generalize pre.length = k at hK ⊢
          have HK := Lib.hid hK
          clear hK
          go_wp2_with fail
          refine ⟨by simp, .inl ⟨_, _, rfl, run_takeDeferred HK.out, ?_⟩⟩
          have hF := hfin _ _ _ hD HK.out
          exact ⟨_, results_cell_bool rfl _ _ (w.heap.size + 1 + 1) _ rfl hF.1, rfl, hF.2⟩
      · specialize m0 hA
        specialize r0 (by omega)
        have hA1 : ((s.size : Int) % 4 == 0) = false := by simp only [beq_eq_false_iff_ne, ne_eq]; omega
        have hB1 : decide ((s.size : Int) < 32) = true := by simp only [decide_eq_true_eq]; omega
        have hB2 : decide (32 ≤ (s.size : Int)) = false := by simp only [decide_eq_false_iff_not]; omega
        refine (callsIn_wide (n := 3)).1 ?_
        refine callsIn_of_wp_marks Try.func7 rfl trivial ?_ rfl
        simp only [Try.ntmps7, List.size_toArray, List.length_cons, List.length_nil, Nat.reduceAdd, Nat.reduceSub, Array.replicate_succ, Array.replicate_zero, List.push_toArray, List.append_toArray, List.nil_append, List.cons_append]
        refine wpIn_wide.2 ?_
        go_wp2_with (first | (go_at_call 8; with_reducible refine (awake_any.at _).mono ?_; rintro e w' ⟨rfl, g, rfl⟩))
        refine wp_region_gr2 (by kernel_rfl) (by kernel_rfl) ?_
        repeat (go_big_quiet_step (first | (with_reducible exact c1.inClass _ _) | (with_reducible exact c2.inClass _ _) | (with_reducible exact b1.inClass _ _) | (with_reducible exact b2.inClass _ _)))
        refine wpQuiet_nil ?_
        rintro _ ⟨g5, rfl⟩
        go_wp2_with (first | (go_at_call 11; with_reducible refine (m0.at _).mono ?_; rintro e w' ⟨rfl, g6, rfl⟩) | (go_at_call 13; refine (New_at _ _).mono ?_; rintro e w' ⟨rfl, rfl⟩) | (go_at_call 12; refine (r0 _).mono ?_; rintro e w' ⟨rfl, g7, rfl⟩))
        refine wp_region_gr (by kernel_rfl) (by kernel_rfl) ?_
        repeat (first | go_big_quiet_step (fail) | simp only [hA1])
        refine wpQuiet_nil ?_
        rintro _ ⟨g8, rfl⟩
        go_wp2_with (first | (go_at_call 13; refine (New_at _ _).mono ?_; rintro e w' ⟨rfl, rfl⟩) | (go_at_call 12; refine (r0 _).mono ?_; rintro e w' ⟨rfl, g7, rfl⟩))
        refine wp_region_gr (by kernel_rfl) (by kernel_rfl) ?_
        repeat (first | go_big_quiet_step (fail) | simp only [hB1, hB2])
        refine wpQuiet_nil ?_
        rintro _ ⟨g9, rfl⟩
        go_wp2_with (first | (go_at_call 18; with_reducible refine (cP.at _).mono ?_; rintro e w' ⟨rfl, g10, rfl⟩) | (go_at_call 19; refine (Words_at _ _).mono ?_; rintro e w' ⟨rfl, rfl⟩))
        generalize hW1 : gr (((w.alloc _).alloc _).alloc _) _ = W1
        generalize hW2 : gr (W1.alloc _) _ = W2
        generalize hW3 : gr (W2.alloc _) _ = W3
        have hb3 : Below w.heap.size w W3 := by
          subst hW3; subst hW2; subst hW1; (repeat' (first | (with_reducible exact Below.refl _ _) | (with_reducible refine belowGrU ?_ _) | (with_reducible refine belowAlloc ?_ _) | (with_reducible refine Below.setCell ?_ ?_ _) | (with_reducible refine Below.drew ?_) | (simp [go_sem]; done) | (simp [go_sem]; omega)))
        have o1 : Old (w.heap.size + 1) W3 := by
          subst hW3; subst hW2; subst hW1; exact inferInstance
        have o2 : Old (w.heap.size + 1 + 1) W3 := by
          subst hW3; subst hW2; subst hW1; exact inferInstance
        have k1 : W3.cell? ⟨w.heap.size + 1, 0, none⟩ = some (.int .u8 (t : Int)) := by
          subst hW3; subst hW2; subst hW1; simp [go_sem]
        have k2 : W3.cell? ⟨w.heap.size + 1 + 1, 0, none⟩ = some (.bool false) := by
          subst hW3; subst hW2; subst hW1; simp [go_sem]
        have k3 : W3.frozen? ⟨w.heap.size + 1 + 1, 0, none⟩ = false := by
          subst hW3; subst hW2; subst hW1; simp [go_sem]
        clear hW3
        clear hW2
        clear hW1
        haveI u0 : Upto w.heap.size W3 := ⟨hb3.size⟩
        have hT : (W3.setCell ⟨w.heap.size + 1 + 1, 0, none⟩ (.bool true)).cell? ⟨w.heap.size + 1 + 1, 0, none⟩ = some (.bool true) := by
          simp [go_sem, k2]
        have hbT : Below w.heap.size w (W3.setCell ⟨w.heap.size + 1 + 1, 0, none⟩ (.bool true)) := Below.setCell hb3 (by show w.heap.size ≤ w.heap.size + 1 + 1; omega) _
        have hfin : ∀ (k D : Nat) (g : Gr), W3.heap.size + 4 ≤ D → (gr (plW (W3.setCell ⟨w.heap.size + 1 + 1, 0, none⟩ (.bool true)) p s k) g).heap[D]? = some (.deferred (some [])) →
            ((gr (plW (W3.setCell ⟨w.heap.size + 1 + 1, 0, none⟩ (.bool true)) p s k) g).putObj D (.deferred none)).cell? ⟨w.heap.size + 1 + 1, 0, none⟩ = some (.bool true) ∧
            Below w.heap.size w ((gr (plW (W3.setCell ⟨w.heap.size + 1 + 1, 0, none⟩ (.bool true)) p s k) g).putObj D (.deferred none)) := fun k D g hD hK => by
          have h2 := o2.h
          have hb2 : Below w.heap.size w (gr (plW (W3.setCell ⟨w.heap.size + 1 + 1, 0, none⟩ (.bool true)) p s k) g) := by
            unfold plW
            exact belowGrU (belowAlloc (belowAlloc (belowAlloc (belowAlloc hbT _) _) _) _) _
          refine ⟨?_, hb2.trans (below_put _ D _ _ (by omega) hK hb2.size)⟩
          rw [World.cell?_of_block (World.putObj_heap_other (by show w.heap.size + 1 + 1 ≠ D; omega))]
          unfold plW
          simp only [go_sem, hT]
        have hW0 : Hid (((((W3.alloc (.cells #[.string p] 9)).alloc (.cells #[.int .i64 0] 3)).alloc (.cells #[.int .i64 0] 3)).alloc (.cells #[.string s] 9)) = plW W3 p s 0) := rfl
        rw [hW0.out]
        refine (wpIn_wide (n := 3)).1 ?_
        have hI : From (plW W3 p s 0).heap.size (fun (pre : List Nat) W => ∃ g : Gr, W = gr (plW W3 p s pre.length) g) :=
          from_gr (fun pre : List Nat => plW W3 p s pre.length) (fun _ => by rw [plW_size, plW_size])
        have hIx : ∀ c : Code, From (plW W3 p s 0).heap.size (fun (pre : List Nat) W => c = .ret ∧ ∃ g : Gr, W = gr (plW (W3.setCell ⟨w.heap.size + 1 + 1, 0, none⟩ (.bool true)) p s pre.length) g) :=
          fun c => from_and (from_pure _) (from_gr (fun pre : List Nat => plW (W3.setCell ⟨w.heap.size + 1 + 1, 0, none⟩ (.bool true)) p s pre.length) (fun _ => by rw [plW_size, plW_size, World.size_setCell]))
        have hseq := Words1_own s (by omega) (W3.heap.size + 1 + 1 + 1) (plW W3 p s 0) (by rw [plW_size]; omega) (by simp [plW, go_sem])
        apply wpIn_range_own (w := plW W3 p s 0) (gf := 26) (lb := #[.pointer (some ⟨W3.heap.size + 1 + 1 + 1, 0, none⟩)]) rfl eg_words1
          hseq (Below.refl _ _) (fun _ => rfl) _ _ hI hIx (ex_gr _)
        case hassign =>
          intro l m x W K hK
          gi_wp2
          exact hK
        case hbody =>
          rintro l m pre x W ⟨g, rfl⟩ ⟨xs, hxs, hpre⟩
          rw [hxs, HP.out] at hpre
          obtain ⟨hlt, rfl⟩ := words_next hpre
          have hlen : ∀ y, (pre ++ [y]).length = pre.length + 1 := fun y => by simp
          clear hpre hxs
          obtain ⟨k, hk⟩ : ∃ k, pre.length = k := ⟨_, rfl⟩
          rw [hk] at hlt ⊢
          have h4 : 4 * k + 4 ≤ p.size := by unfold nwords at hlt; omega
          have cN := CutNumber_any p k h4
          have hcut : p.extract (4 * k) (4 * k + 4) = cut4 p k := rfl
          have hcs := cut4_size h4
          generalize wordAt p k = X at *
          have hlen := hlen X
          rw [hk] at hlen
          have HL := Lib.hid hlen
          clear hlen hk
          generalize cut4 p k = C at *
          have hm : plW W3 p s k = (((W3.alloc (.cells #[.string p] 9)).alloc (.cells #[.int .i64 (4 * (k : Int))] 3)).alloc (.cells #[.int .i64 (k : Int)] 3)).alloc (.cells #[.string s] 9) := rfl
          have hn : ∀ W : World, plW W p s (k + 1) = (((W.alloc (.cells #[.string p] 9)).alloc (.cells #[.int .i64 (4 * (k : Int) + 4)] 3)).alloc (.cells #[.int .i64 ((k : Int) + 1)] 3)).alloc (.cells #[.string s] 9) := fun W => by
            have e1 : ((4 * (k + 1) : Nat) : Int) = 4 * (k : Int) + 4 := by omega
            have e2 : ((k + 1 : Nat) : Int) = (k : Int) + 1 := by omega
            simp only [plW, e1, e2]
          rw [hm]
          have HN := Lib.hid hn
          clear hn hm
          gi_wp2_with (refine ⟨trivial, fun h => (by simp [Fence.wide] at h), ?_⟩; refine (CallsIn.inRound l (callsIn_wide.2 (cN.at _))).mono ?_; rintro e w' ⟨rfl, g1, rfl⟩)
          · exact ⟨kept_seq _ _ _ _ _ (by simp) (by simp [plW]), rfl, _, by rw [HL.out, HN.out]⟩
          · exact ⟨kept_seq _ _ _ _ _ (by simp) (by simp [plW]), _, by rw [HL.out, HN.out]⟩
        case hdone =>
          rintro D xs W hD hxs ⟨g, rfl⟩ hK
          rw [plW_size] at hD
          have hln : xs.length = nwords p := by rw [hxs, HP.out]; simp [wordsL, wordsTo]
          have hz : 4 * nwords p = p.size := by unfold nwords; omega
          rw [hln] at hK ⊢
          have hm : ∀ W : World, plW W p s (nwords p) = (((W.alloc (.cells #[.string p] 9)).alloc (.cells #[.int .i64 (p.size : Int)] 3)).alloc (.cells #[.int .i64 (nwords p : Int)] 3)).alloc (.cells #[.string s] 9) := fun W => by simp only [plW, hz]
          have hK2 : (gr ((((W3.setCell ⟨w.heap.size + 1 + 1, 0, none⟩ (.bool true)).alloc (.cells #[.string p] 9)).alloc (.cells #[.int .i64 (p.size : Int)] 3)).alloc (.cells #[.int .i64 (nwords p : Int)] 3) |>.alloc (.cells #[.string s] 9)) g).heap[D]? = some (.deferred (some [])) := by
            rw [← hm, ← hK]
            exact gr_heap_past _ _ g D (by rw [plW_size, plW_size, World.size_setCell]) (by rw [plW_size, World.size_setCell]; exact hD)
          rw [hm]
          have HK := Lib.hid hK2
          have HM := Lib.hid hm
          clear hK hK2 hm hxs hln
          go_wp2_with fail
          refine ⟨by simp, .inl ⟨_, _, rfl, run_takeDeferred HK.out, ?_⟩⟩
          have hF := HK.out
          rw [← HM.out] at hF ⊢
          have hF := hfin _ _ _ hD hF
          exact ⟨_, results_cell_bool rfl _ _ (w.heap.size + 1 + 1) _ rfl hF.1, rfl, hF.2⟩
        case hstop =>
          rintro D c pre W hD _ ⟨rfl, g, rfl⟩ hK
          rw [plW_size] at hD
          refine wpIn_wide.2 ?_
          generalize pre.length = k at hK ⊢
          have HK := Lib.hid hK
          clear hK
          go_wp2_with fail
          refine ⟨by simp, .inl ⟨_, _, rfl, run_takeDeferred HK.out, ?_⟩⟩
          have hF := hfin _ _ _ hD HK.out
          exact ⟨_, results_cell_bool rfl _ _ (w.heap.size + 1 + 1) _ rfl hF.1, rfl, hF.2⟩
  · simp only [S4.v, S4.cs]
    refine (callsIn_wide (n := 3)).1 ?_
    refine callsIn_of_wp_marks Try.func7 rfl trivial ?_ rfl
    simp only [Try.ntmps7, List.size_toArray, List.length_cons, List.length_nil, Nat.reduceAdd, Nat.reduceSub, Array.replicate_succ, Array.replicate_zero, List.push_toArray, List.append_toArray, List.nil_append, List.cons_append]
    refine wpIn_wide.2 ?_
    go_wp2_with (go_at_call 8; with_reducible refine (awake_any.at _).mono ?_; rintro e w' ⟨rfl, g, rfl⟩)
    all_goals (try (exfalso; omega))
    all_goals refine ⟨_, results_cell_bool rfl _ _ (w.heap.size + 1 + 1) _ rfl (by simp [go_sem]), rfl, by (repeat' (first | (with_reducible exact Below.refl _ _) | (with_reducible refine belowGrU ?_ _) | (with_reducible refine belowAlloc ?_ _) | (with_reducible refine Below.setCell ?_ ?_ _) | (with_reducible refine Below.drew ?_) | (simp [go_sem]; done) | (simp [go_sem]; omega)))⟩

theorem lawWalk : LawWalk 7 Try.f7.params := by
  intro H enc W base args ds p hval hA _ _
  rw [Try.params7] at hA hval
  obtain ⟨v0, v1, v2, d0, d1, d2, p0, p1, p2, rfl, rfl, rfl, h0, h1, h2⟩ := trodAll_three hA
  obtain ⟨x, hx, rfl⟩ := open_s4 (hval 0 29 v0 rfl rfl) h0
  obtain ⟨s, rfl, rfl, rfl, hs⟩ := open_string Try.underlying9 (hval 1 9 v1 rfl rfl) h1
  obtain ⟨n, rfl, _, _, wn⟩ := open_int Try.underlying5 (hval 2 5 v2 rfl rfl) h2
  unfold maxLen at hs
  have hn : 0 ≤ n ∧ n ≤ 255 := by
    simp [Lit.wf, IntKind.min, IntKind.max, IntKind.signed, IntKind.bits] at wn
    omega
  obtain ⟨k, rfl⟩ := Int.eq_ofNat_of_zero_le hn.1
  exact walk x hx s hs k (by omega) W

set_option maxRecDepth 100000 in
theorem holds : Rows.FletchPlaysSaid :=
  OpenClaim.holds_of_wide 7 Try.f7 rfl rfl rfl rfl rfl rfl rfl ⟨rfl, rfl, rfl, rfl, rfl⟩ rfl rfl rfl rfl rfl (by kernel_rfl) Try.func7 (by kernel_rfl)
    (of_decide_eq_true (by kernel_rfl)) (by unfold Func.isWrapper; first | (rw [if_pos (by decide +kernel)]; kernel_rfl) | (rw [if_neg (by decide +kernel)]; exact ⟨rfl, rfl⟩))
    (fun os started H enc _ => law_lifted (s := Rows.fletchPlaysSpec) started (by kernel_rfl) Try.func7 rfl rfl Try.underlying4 (by kernel_rfl)
      (fun ds h => by
        rw [Try.params7] at h
        match ds, h with
        | [d1, d2, d3], _ => rfl)
      (ChangeSpec.witness6 (enc := enc) (C := Try.checked) false ⟨#[], #[.agg #[.int .u64 0, .int .u64 0, .int .u64 0, .int .u64 0], .string ⟨#[]⟩, .int .u8 0], []⟩ 8 (by kernel_rfl) (by kernel_rfl) (by kernel_rfl) (by kernel_rfl))
      lawWalk)
#print axioms holds

end FletchPlays
end Go.Proofs.Ytnflakaphbjbhaa

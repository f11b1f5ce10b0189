/-
  (*script.Script).line: a line of a script, taken up.
-/
import Derived.Deep.RegionLaw
import Derived.BigRegion
import Derived.Test.YtajionjffijffaaRight
import Derived.Test.YtajionjffijffaaCap
namespace Go.Proofs.Ytajionjffijffaa
open Go.RowKit Go.Sort

structure ScS where
  gs : List (Int × Int)
  secs : Int
  xs : List Act5
/-- a script in memory -/
structure SM (W : World) (B b : Nat) (s : ScS) : Prop where
  ex : ∃ vG vL, W.heap[b]? = some (.cells #[vG, .int .i64 s.secs, vL] 28 (0, 0)) ∧ W.ownsRow B 56 2 vG s.gs.length (flatG s.gs) ∧ W.ownsRow B 40 5 vL s.xs.length (flatA s.xs)
def lineS (s : ScS) (w0 : ByteArray) (mid : List (ByteArray × Int)) (e : Int) : ScS × Int × Int :=
  if s.gs = [] then (⟨(measS w0 mid e).1.gs, (measS w0 mid e).1.secs, s.xs⟩, (measS w0 mid e).2.1, (measS w0 mid e).2.2)
  else (⟨s.gs, s.secs, s.xs ++ [(actS w0 mid e).1]⟩, (actS w0 mid e).2.1, (actS w0 mid e).2.2)
def isStep (W : World) (B k : Nat) : Prop := B ≤ k ∧ ∃ cur fr, W.heap[k]? = some (.cells cur 40 fr)
theorem ownsRow_base {W : World} {B B' : Nat} {e : TypeId} {sz : Nat} {v : Value} {n : Nat} {xs : List Value} (h : W.ownsRow B e sz v n xs) (hB : B' ≤ B) : W.ownsRow B' e sz v n xs := by
  refine ⟨h.1, ?_⟩
  rcases h.2 with hn | ⟨g, cap, cur, rfl, hb, hrest⟩
  · exact .inl hn
  · exact .inr ⟨g, cap, cur, rfl, by omega, hrest⟩
theorem ownsRow_off {W W' : World} {B : Nat} {e : TypeId} {sz : Nat} {v : Value} {n : Nat} {xs : List Value} (h : W.ownsRow B e sz v n xs) (hk : ∀ g, v.ownBlock = some g → W'.heap[g]? = W.heap[g]?) : W'.ownsRow B e sz v n xs := by
  refine ⟨h.1, ?_⟩
  rcases h.2 with hn | ⟨g, cap, cur, rfl, hb, hg, hrest⟩
  · exact .inl hn
  · exact .inr ⟨g, cap, cur, rfl, hb, (hk g rfl).trans hg, hrest⟩
theorem ownsRow_len {W : World} {B : Nat} {e : TypeId} {sz : Nat} {v : Value} {n : Nat} {xs : List Value} (h : W.ownsRow B e sz v n xs) : ∃ ad cap, v = .slice ad n cap := by
  rcases h.2 with ⟨rfl, rfl⟩ | ⟨g, cap, cur, rfl, _⟩
  · exact ⟨_, _, rfl⟩
  · exact ⟨_, _, rfl⟩

theorem step_append_run {P : Program} {ops : Array Oper} {o : Oper} {a : Act} {w : World} {K : Act → World → Prop} {Q : Exit → Act → World → Prop} {E : Prop}
    (hg : o.guard = none) (s x : Operand) (t : TypeId) (hop : o.op = Op.call { callee := Callee.builtin Builtin.append, args := #[s, x], argTypes := #[t, t] }) (v u : Value) (hs : a.eval s = v) (hx : a.eval x = u) {v' : Value} {w' : World}
    (hr : (Builtin.append_ #[t, t] o.type #[v, u]).run P w = .ok v' w') (hK : K (a.put o.dst v') w') :
    if Region.wanted o (yielded ops a.tmps) = true then Oper.wp P o a w K Q else E := by
  have hw : Region.wanted o (yielded ops a.tmps) = true := by simp [Region.wanted, hg]
  rw [if_pos hw]
  exact wp_append_run w s x t t hop v u hs hx hr hK

/-- 'append(xs, x)' -/
theorem run_appA {V : World} {B : Nat} {v : Value} {xs : List Act5} (h : V.ownsRow B 40 5 v xs.length (flatA xs)) (hB : B ≤ V.heap.size) (hl : xs.length < 1000000) (x : Act5) :
    ∃ g' cap' W', (Builtin.append_ #[26, 26] 26 #[v, .slice (some ⟨V.heap.size, 0, none⟩) 1 1]).run Try.prog (V.alloc (.cells x.cs 40)) =
      .ok (.slice (some ⟨g', 0, none⟩) (xs.length + 1) cap') W' ∧ W'.ownsRow B 40 5 (.slice (some ⟨g', 0, none⟩) (xs.length + 1) cap') (xs ++ [x]).length (flatA (xs ++ [x])) ∧ (V.alloc (.cells x.cs 40)).grownBy W' v.ownBlock := by
  have hinfo : (Try.prog.info? 40).map (fun i => (i.zero, i.size, i.bytes)) = some (some (.agg #[.string ⟨#[]⟩, .int .i64 0, .int .i64 0, .int .i64 0, .int .i64 0]), 5, 48) := by kernel_rfl
  obtain ⟨i0, hi, hz0, hz1, hz2⟩ := info_parts hinfo
  obtain ⟨v', W', hrun, hown', hgr, hnil⟩ := run_append_own (P := Try.prog) (V.alloc (.cells x.cs 40)) B 26 26 40 i0 _ 5 48
    Try.underlying26 hi hz0 hz1 hz2 rfl (by omega) v xs.length (flatA xs) (h.alloc _) ⟨V.heap.size, 0, none⟩ 1 1 x.cs.toList rfl
    (fun j u hj => by
      have e : (⟨V.heap.size, 0, none⟩ : Addr).add j = ⟨V.heap.size, j, none⟩ := by unfold Addr.add; split <;> simp_all
      rw [e, cell_at]
      simpa using hj) (by simp [Act5.cs, Value.oneCell']) (by unfold maxLen; omega) (by omega) (by simp; omega)
  have hflat : flatA xs ++ x.cs.toList = flatA (xs ++ [x]) := by rw [flatA_append]; rfl
  rw [hflat] at hown'
  have hlen : xs.length + 1 = (xs ++ [x]).length := by simp
  rcases hown'.2 with ⟨_, h0⟩ | ⟨g', cap', cur', rfl, hb', hg', hle', hmx', hs', ht'⟩
  · omega
  · refine ⟨g', cap', W', hrun, ?_, hgr⟩
    rw [← hlen]
    exact hown'

set_option maxRecDepth 20000 in
set_option maxHeartbeats 2000000 in
theorem line_at (W : World) (B b : Nat) (s : ScS) (hm : SM W B b s) (hBW : B ≤ W.heap.size) (Bp g cap : Nat) (p0 : ByteArray × Int) (mid : List (ByteArray × Int)) (pe : ByteArray × Int) (hp : OwnP W Bp g cap (p0 :: (mid ++ [pe])))
    (hml : mid.length < 1000000) (hgl : s.gs.length < 1000000) (hxl : s.xs.length < 1000000) :
    Calls Try.prog 24 #[.pointer (some ⟨b, 0, none⟩), .slice (some ⟨g, 0, none⟩) (mid.length + 2) cap] W fun e W' =>
      e = .returned (.tuple #[.int .i64 (lineS s p0.1 mid pe.2).2.1, .int .i64 (lineS s p0.1 mid pe.2).2.2]) ∧ SM W' B b (lineS s p0.1 mid pe.2).1 ∧ Off (fun k => k = b ∨ isStep W B k) W W' := by
  obtain ⟨vG, vL, hb, hG, hL⟩ := hm.ex
  have hbl := (Array.getElem?_eq_some_iff.1 hb).1
  haveI : Old b W := ⟨hbl⟩
  have b0 : W.cell? ⟨b, 0, none⟩ = some vG := by rw [cell_of_row W b 0 _ _ _ hb]; rfl
  have b1 : W.cell? ⟨b, 1, none⟩ = some (.int .i64 s.secs) := by rw [cell_of_row W b 1 _ _ _ hb]; rfl
  have b2 : W.cell? ⟨b, 2, none⟩ = some vL := by rw [cell_of_row W b 2 _ _ _ hb]; rfl
  have bf : ∀ j, W.frozen? ⟨b, j, none⟩ = false := fun j => frozen_of_row hb j
  obtain ⟨adG, capG, eG⟩ := ownsRow_len hG
  obtain ⟨gs, secs, xs⟩ := s
  simp only at *
  by_cases hgs : gs = []
  · subst hgs
    have cM := measure_at W Bp g cap p0 mid pe hp hml
    have hl : lineS ⟨[], secs, xs⟩ p0.1 mid pe.2 = (⟨(measS p0.1 mid pe.2).1.gs, (measS p0.1 mid pe.2).1.secs, xs⟩, (measS p0.1 mid pe.2).2.1, (measS p0.1 mid pe.2).2.2) := by unfold lineS; rw [if_pos rfl]
    rw [hl]
    obtain ⟨⟨⟨gs', secs'⟩, at', er⟩, hr⟩ : ∃ r, measS p0.1 mid pe.2 = r := ⟨_, rfl⟩
    rw [hr] at cM ⊢
    clear hr hl
    subst eG
    simp only [List.length_nil] at *
    go_enter Try.func24, Try.ntmps24
    go_wp2_with (go_at_call 40; refine cM.mono ?_; rintro e w' ⟨v, rfl, hv, hv0, hbel⟩; simp only at hv hv0; obtain ⟨adv, capv, rfl⟩ := ownsRow_len hv; haveI : Old b w' := ⟨Nat.lt_of_lt_of_le hbl hbel.size⟩; have e0 := (hbel.cell (p := ⟨b, 0, none⟩) hbl).trans b0; have e1 := (hbel.cell (p := ⟨b, 1, none⟩) hbl).trans b1; have f0 := frozen_of_row ((hbel.block b hbl).trans hb) 0; have f1 := frozen_of_row ((hbel.block b hbl).trans hb) 1)
    have hb' := (hbel.block b hbl).trans hb
    have hLw := ownsRow_off hL (fun k hk => hbel.block k (hL.lt k hk).2)
    have hvB := ownsRow_base hv (show B ≤ W.heap.size by omega)
    have tG := ownsRow_type hvB hb' (by decide)
    have tL := ownsRow_type hLw hb' (by decide)
    go_ret2
    refine ⟨rfl, ⟨_, vL, (Below.heap_alloc _ _ _ (by simp; exact Nat.lt_of_lt_of_le hbl hbel.size)).trans (heap_set_cells (heap_set_cells hb' _) _), (ownsRow_set (ownsRow_set hvB b 0 _ tG) b 1 _ tG).alloc _, (ownsRow_set (ownsRow_set hLw b 0 _ tL) b 1 _ tL).alloc _⟩, ?_⟩
    exact ((Off.setCell (Off.setCell (Off.of_below hbel) (p := ⟨b, 0, none⟩) (.inl rfl) _) (p := ⟨b, 1, none⟩) (.inl rfl) _)).trans (Off.of_below (bel1' _ _))
  · have cA := act_at W Bp g cap p0 mid pe hp hml
    have hl : lineS ⟨gs, secs, xs⟩ p0.1 mid pe.2 = (⟨gs, secs, xs ++ [(actS p0.1 mid pe.2).1]⟩, (actS p0.1 mid pe.2).2.1, (actS p0.1 mid pe.2).2.2) := by unfold lineS; rw [if_neg hgs]
    rw [hl]
    obtain ⟨⟨⟨x0, x1, x2, x3, x4⟩, at', er⟩, hr⟩ : ∃ r, actS p0.1 mid pe.2 = r := ⟨_, rfl⟩
    rw [hr] at cA ⊢
    simp only [Act5.v, Act5.cs] at cA
    clear hr hl
    subst eG
    have hgl0 : ((gs.length : Int) == 0) = false := by
      rw [beq_eq_false_iff_ne]
      intro e
      exact hgs (List.length_eq_zero_iff.1 (by omega))
    go_enter Try.func24, Try.ntmps24
    go_wp2_with (go_at_call 41; refine cA.mono ?_; rintro e w' ⟨rfl, g1, rfl⟩)
    have hL1 : ((gr W g1).alloc (.cells #[.string x0, .int .i64 x1, .int .i64 x2, .int .i64 x3, .int .i64 x4] 40)).ownsRow B 40 5 vL xs.length (flatA xs) := (ownsRow_gr hL g1).alloc _
    have hG1 : ((gr W g1).alloc (.cells #[.string x0, .int .i64 x1, .int .i64 x2, .int .i64 x3, .int .i64 x4] 40)).ownsRow B 56 2 (.slice adG gs.length capG) gs.length (flatG gs) := (ownsRow_gr hG g1).alloc _
    have hb1 : ((gr W g1).alloc (.cells #[.string x0, .int .i64 x1, .int .i64 x2, .int .i64 x3, .int .i64 x4] 40)).heap[b]? = some (.cells #[.slice adG gs.length capG, .int .i64 secs, vL] 28 (0, 0)) := by
      rw [Below.heap_alloc _ _ _ (by rw [gr_size]; omega), gr_heap _ _ hbl]
      exact hb
    have hx1 : ∀ j u, (#[.string x0, .int .i64 x1, .int .i64 x2, .int .i64 x3, .int .i64 x4] : Array Value)[j]? = some u → ((gr W g1).alloc (.cells #[.string x0, .int .i64 x1, .int .i64 x2, .int .i64 x3, .int .i64 x4] 40)).cell? ⟨(gr W g1).heap.size, j, none⟩ = some u := fun j u hj => by rw [cell_at]; exact hj
    have hof : Off (fun k => k = b ∨ isStep W B k) W ((gr W g1).alloc (.cells #[.string x0, .int .i64 x1, .int .i64 x2, .int .i64 x3, .int .i64 x4] 40)) := Off.of_below (by (repeat' (first | (with_reducible exact Below.refl _ _) | (with_reducible refine belowGrU ?_ _) | (with_reducible refine belowAlloc ?_ _) | (with_reducible refine Below.setCell ?_ ?_ _) | (with_reducible refine Below.drew ?_) | (simp [go_sem]; done) | (simp [go_sem]; omega))))
    have hX : (gr W g1).heap.size < ((gr W g1).alloc (.cells #[.string x0, .int .i64 x1, .int .i64 x2, .int .i64 x3, .int .i64 x4] 40)).heap.size := by simp
    generalize (gr W g1).alloc (.cells #[.string x0, .int .i64 x1, .int .i64 x2, .int .i64 x3, .int .i64 x4] 40) = V at hL1 hG1 hb1 hx1 hof hX ⊢
    generalize (gr W g1).heap.size = X at hx1 hX ⊢
    have hVd : (V.drew).heap = V.heap := rfl
    have hL2 : V.drew.ownsRow B 40 5 vL xs.length (flatA xs) := ownsRow_off hL1 (fun _ _ => rfl)
    obtain ⟨g', cap', W3, hrun, hown3, hgr3⟩ := run_appA hL2 (by have := hof.size; show B ≤ V.heap.size; omega) hxl ⟨x0, x1, x2, x3, x4⟩
    have hbV := (Array.getElem?_eq_some_iff.1 hb1).1
    have hb3 : W3.heap[b]? = some (.cells #[.slice adG gs.length capG, .int .i64 secs, vL] 28 (0, 0)) := by
      refine (hgr3.block b (by rw [World.size_alloc]; show b < V.heap.size + 1; omega) (fun e => ownsRow_type hL1 hb1 (by decide) e.symm)).trans ?_
      exact (Below.heap_alloc V.drew _ _ hbV).trans hb1
    have cb2 : V.cell? ⟨b, 2, none⟩ = some vL := by rw [cell_of_row V b 2 _ _ _ hb1]; rfl
    have cx0 := hx1 0 _ rfl
    have cx1 := hx1 1 _ rfl
    have cx2 := hx1 2 _ rfl
    have cx3 := hx1 3 _ rfl
    have cx4 := hx1 4 _ rfl
    haveI : Old b V := ⟨hbV⟩
    haveI : Old X V := ⟨hX⟩
    have cw2 : W3.cell? ⟨b, 2, none⟩ = some vL := by rw [cell_of_row W3 b 2 _ _ _ hb3]; rfl
    have cwf := frozen_of_row hb3 2
    obtain ⟨adL, capL, rfl⟩ := ownsRow_len hL
    have HRUN := Lib.hid hrun
    simp only [Act5.cs] at HRUN
    clear hrun b0 b1 b2 bf hx1
    have hof3 : Off (fun k => k = b ∨ isStep W B k) W W3 := by
      refine hof.trans ⟨?_, fun k hk hkV => ?_⟩
      · exact Below.grown (Below.alloc (w := V.drew) (Below.drew (Below.refl _ _)) (Nat.zero_le _) _) hgr3 (Nat.zero_le _) (fun _ _ => Nat.zero_le _)
      · refine (hgr3.block k (by rw [World.size_alloc]; show k < V.heap.size + 1; omega) (fun e => hk (.inr ?_))).trans (Below.heap_alloc V.drew _ _ hkV)
        refine ⟨(hL.lt k e.symm).1, ?_⟩
        rcases hL.2 with ⟨h1, _⟩ | ⟨gL, capx, cur, h1, _, hgL, _⟩
        · rw [h1] at e; simp [Value.ownBlock] at e
        · rw [h1] at e
          simp [Value.ownBlock] at e
          subst e
          exact ⟨_, _, hgL⟩
    have hG3 : W3.ownsRow B 56 2 (.slice adG gs.length capG) gs.length (flatG gs) := by
      refine ownsRow_off hG1 (fun k hk => ?_)
      have hkV := (hG1.lt k hk).2
      refine (hgr3.block k (by rw [World.size_alloc]; show k < V.heap.size + 1; omega) (fun e => ?_)).trans (Below.heap_alloc V.drew _ _ hkV)
      rcases hG1.2 with ⟨h1, _⟩ | ⟨gG, capx, cur, h1, _, hgG, _⟩
      · rw [h1] at hk; simp [Value.ownBlock] at hk
      · rw [h1] at hk
        simp [Value.ownBlock] at hk
        subst hk
        exact ownsRow_type hL1 hgG (by decide) e.symm
    have tG3 := ownsRow_type hG3 hb3 (by decide)
    have tL3 := ownsRow_type hown3 hb3 (by decide)
    have hfin : SM (W3.setCell ⟨b, 2, none⟩ (.slice (some ⟨g', 0, none⟩) (xs.length + 1) cap')) B b ⟨gs, secs, xs ++ [⟨x0, x1, x2, x3, x4⟩]⟩ ∧ Off (fun k => k = b ∨ isStep W B k) W (W3.setCell ⟨b, 2, none⟩ (.slice (some ⟨g', 0, none⟩) (xs.length + 1) cap')) :=
      ⟨⟨_, _, heap_set_cells hb3 _, ownsRow_set hG3 b 2 _ tG3, ownsRow_set hown3 b 2 _ tL3⟩, Off.setCell hof3 (p := ⟨b, 2, none⟩) (.inl rfl) _⟩
    have HFIN := Lib.hid hfin
    clear hfin hof3 hG3 hof hG1 hL1 hL2 hgr3 hown3 hm hp
    go_region_law (refine step_append_run rfl (.tmp 41) (.tmp 43) 26 rfl _ _ (by simp [Act.eval]) (by simp [Act.eval]) HRUN.out ?_)
    all_goals (
      go_wp2_with fail
      go_ret2
      exact ⟨rfl, HFIN.out⟩)

end Go.Proofs.Ytajionjffijffaa

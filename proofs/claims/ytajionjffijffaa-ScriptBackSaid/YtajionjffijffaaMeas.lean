/-
  script.measure: a pool's line, read.
-/
import Derived.Test.YtajionjffijffaaActs
namespace Go.Proofs.Ytajionjffijffaa
open Go.RowKit Go.Sort

/-! ### rows of pairs of numbers that grow -/
def flatG : List (Int × Int) → List Value
  | [] => []
  | p :: ps => .int .i64 p.1 :: .int .i64 p.2 :: flatG ps
theorem flatG_len : ∀ ps, (flatG ps).length = ps.length * 2
  | [] => rfl
  | p :: ps => by simp [flatG, flatG_len ps]; omega
theorem flatG_append : ∀ a b, flatG (a ++ b) = flatG a ++ flatG b
  | [], b => rfl
  | p :: a, b => by simp [flatG, flatG_append a b]
theorem grownBy_gr (W : World) (g : Gr) : W.grownBy (gr W g) none :=
  let h := below_gr W g
  ⟨h.os, h.tape, h.output, h.size, fun k hk _ => h.block k hk⟩
theorem ownsRow_gr {W : World} {B : Nat} {e : TypeId} {sz : Nat} {v : Value} {n : Nat} {xs : List Value} (h : W.ownsRow B e sz v n xs) (g : Gr) : (gr W g).ownsRow B e sz v n xs :=
  h.kept (grownBy_gr W g) (by cases v.ownBlock <;> simp)
theorem ownsRow_set {W : World} {B : Nat} {e : TypeId} {sz : Nat} {v : Value} {n : Nat} {xs : List Value} (h : W.ownsRow B e sz v n xs) (D i : Nat) (u : Value) (hD : v.ownBlock ≠ some D) : (W.setCell ⟨D, i, none⟩ u).ownsRow B e sz v n xs := by
  refine h.kept (row := some D) ⟨rfl, rfl, rfl, by simp, fun k _ hk => Below.heap_setCell _ _ _ _ (fun e => hk (by rw [e]))⟩ (.inr hD)
theorem ownsRow_type {W : World} {B : Nat} {e : TypeId} {sz : Nat} {v : Value} {n : Nat} {xs : List Value} (h : W.ownsRow B e sz v n xs) {D : Nat} {cs : Array Value} {t : TypeId} {fr : Nat × Nat} (hD : W.heap[D]? = some (.cells cs t fr)) (ht : t ≠ e) : v.ownBlock ≠ some D := by
  intro hv
  rcases h.2 with ⟨rfl, _⟩ | ⟨g, cap, cur, rfl, _, hg, _⟩
  · simp [Value.ownBlock] at hv
  · simp [Value.ownBlock] at hv
    subst hv
    rw [hg] at hD
    cases hD
    exact ht rfl
theorem heap_set_cells {W : World} {D i : Nat} {cs : Array Value} {t : TypeId} (h : W.heap[D]? = some (.cells cs t (0, 0))) (u : Value) : (W.setCell ⟨D, i, none⟩ u).heap[D]? = some (.cells (cs.setIfInBounds i u) t (0, 0)) := by
  rw [setCell_eq_setRow W D i cs t (0, 0) u h]
  exact setRow_heap W D cs _ _ _ h

/-- 'append(gs, y)' -/
theorem wpList_appG {w : World} {ops : Array Oper} {rest : List Oper} {o : Oper} {a : Act} {Q : Exit → Act → World → Prop} (hgd : o.guard = none) (d s : Operand)
    (ho : o.op = .call { callee := .builtin .append, args := #[d, s], argTypes := #[23, 23] }) (B : Nat) (v : Value) (gs : List (Int × Int)) (k z : Int) (ad : Nat) (hd : a.eval d = v)
    (hs : a.eval s = .slice (some ⟨ad, 0, none⟩) 1 1) (hown : w.ownsRow B 56 2 v gs.length (flatG gs)) (hc0 : w.cell? ⟨ad, 0, none⟩ = some (.int .i64 k)) (hc1 : w.cell? ⟨ad, 1, none⟩ = some (.int .i64 z))
    (hB : B ≤ w.heap.size) (hl : gs.length < 1000000)
    (h : ∀ (g' cap' : Nat) (w' : World), w'.ownsRow B 56 2 (.slice (some ⟨g', 0, none⟩) (gs.length + 1) cap') (gs ++ [(k, z)]).length (flatG (gs ++ [(k, z)])) → w.grownBy w' v.ownBlock →
      wpList Try.prog ops Q rest (a.put o.dst (.slice (some ⟨g', 0, none⟩) (gs.length + 1) cap')) w') : wpList Try.prog ops Q (o :: rest) a w := by
  have hinfo : (Try.prog.info? 56).map (fun i => (i.zero, i.size, i.bytes)) = some (some (.agg #[.int .i64 0, .int .i64 0]), 2, 16) := by kernel_rfl
  obtain ⟨i0, hi, hz0, hz1, hz2⟩ := info_parts hinfo
  obtain ⟨v', W', hrun, hown', hgr, hnil⟩ := run_append_own (P := Try.prog) w B 23 o.type 56 i0 _ 2 16
    Try.underlying23 hi hz0 hz1 hz2 rfl (by omega) v gs.length (flatG gs) hown ⟨ad, 0, none⟩ 1 1 [.int .i64 k, .int .i64 z] rfl
    (fun j u hj => by
      have e : (⟨ad, 0, none⟩ : Addr).add j = ⟨ad, j, none⟩ := by unfold Addr.add; split <;> simp_all
      rw [e]
      have hj2 : j < 2 := by
        have := (List.getElem?_eq_some_iff.1 hj).1
        simpa using this
      rcases (show j = 0 ∨ j = 1 by omega) with rfl | rfl
      · rw [hc0]; simpa using hj
      · rw [hc1]; simpa using hj) (by simp [Value.oneCell']) (by unfold maxLen; omega) (by omega) hB
  have hflat : flatG gs ++ [.int .i64 k, .int .i64 z] = flatG (gs ++ [(k, z)]) := by rw [flatG_append]; rfl
  rw [hflat] at hown'
  have hlen : gs.length + 1 = (gs ++ [(k, z)]).length := by simp
  rcases hown'.2 with ⟨_, h0⟩ | ⟨g', cap', cur', rfl, hb', hg', hle', hmx', hs', ht'⟩
  · omega
  · refine wpList_append_run w hgd d s _ _ ho v _ hd hs hrun (h g' cap' W' ?_ hgr)
    rw [← hlen]
    exact hown'

theorem frozen_of_row {w : World} {D : Nat} {cs : Array Value} {t : TypeId} (h : w.heap[D]? = some (.cells cs t (0, 0))) (j : Nat) : w.frozen? ⟨D, j, none⟩ = false := by simp [World.frozen?, h]
theorem belowAlloc' {B : Nat} {a W : World} (h : Below B a W) (o : Obj) (hB : B ≤ W.heap.size := by first | assumption | omega | (simp only [World.size_alloc, gr_size]; omega)) : Below B a (W.alloc o) := h.alloc hB o
theorem belowGr' {B : Nat} {a W : World} (h : Below B a W) (g : Gr) (hB : B ≤ W.heap.size := by first | assumption | omega | (simp only [World.size_alloc, gr_size]; omega)) : Below B a (gr W g) := belowGr h hB g
/-- an old block through a call and an append -/
theorem heap_through {wr W3 : World} {D : Nat} {o : Obj} (h : wr.heap[D]? = some o) {a b c : Obj} {g : Gr} {v : Value} (hgr : (((gr (wr.alloc a) g).alloc b).alloc c).grownBy W3 v.ownBlock) (hD : D < wr.heap.size) (hv : v.ownBlock ≠ some D) : W3.heap[D]? = some o := by
  rw [hgr.block D (by simp only [World.size_alloc, gr_size]; omega) (fun e => hv e.symm), Below.heap_alloc _ _ _ (by simp only [World.size_alloc, gr_size]; omega), Below.heap_alloc _ _ _ (by simp only [World.size_alloc, gr_size]; omega), gr_heap _ _ (by simp only [World.size_alloc]; omega), Below.heap_alloc _ _ _ hD]
  exact h

/-! ### a measure -/
def groupS (s : ByteArray) : (Int × Int) × Bool :=
  if Lib.hasPrefix s.data.toList [109] then ((0, (numS (restS s 109)).1), (numS (restS s 109)).2)
  else if Lib.hasPrefix s.data.toList [112] then ((1, (numS (restS s 112)).1), (numS (restS s 112)).2)
  else ((0, 0), false)
theorem groupV_S (s : ByteArray) : groupV s = .tuple #[.agg #[.int .i64 (groupS s).1.1, .int .i64 (groupS s).1.2], .bool (groupS s).2] := by
  unfold groupV groupS
  split
  · rfl
  · split <;> rfl
def measLoop : List (Int × Int) → List (ByteArray × Int) → Int ⊕ List (Int × Int)
  | gs, [] => .inr gs
  | gs, y :: ys => if (groupS y.1).2 = true then measLoop (gs ++ [(groupS y.1).1]) ys else .inl y.2
structure GeoS where
  gs : List (Int × Int)
  secs : Int
def noGeo : GeoS := ⟨[], 0⟩
def measTail (n e : Int) : Int ⊕ List (Int × Int) → GeoS × Int × Int
  | .inl at' => (noGeo, at', 1)
  | .inr [] => (noGeo, e, 1)
  | .inr (g :: gs) => (⟨g :: gs, n⟩, 0, 0)
def poolL : List UInt8 := [112, 111, 111, 108]
def measS (w0 : ByteArray) (mid : List (ByteArray × Int)) (e : Int) : GeoS × Int × Int :=
  if w0.data.toList ≠ poolL then (noGeo, 1, 12)
  else match mid with
    | [] => (noGeo, e, 1)
    | y :: ys => if (numS y.1).2 = true then measTail (numS y.1).1 e (measLoop [] ys) else (noGeo, y.2, 1)

/-- what a call that hands back a measure leaves -/
def GeoAt (W : World) (r : GeoS × Int × Int) (e : Ending) (w' : World) : Prop :=
  ∃ v, e = .returned (.tuple #[.agg #[v, .int .i64 r.1.secs], .int .i64 r.2.1, .int .i64 r.2.2]) ∧ w'.ownsRow W.heap.size 56 2 v r.1.gs.length (flatG r.1.gs) ∧ (r.1.gs = [] → v = .slice none 0 0) ∧ Below W.heap.size W w'
theorem geoAt_none {W w' : World} {a b : Int} (hb : Below W.heap.size W w') : GeoAt W (noGeo, a, b) (.returned (.tuple #[.agg #[.slice none 0 0, .int .i64 0], .int .i64 a, .int .i64 b])) w' :=
  ⟨.slice none 0 0, rfl, World.ownsRow_nil _ _ _ _, fun _ => rfl, hb⟩
theorem results_geo {fn : Func} {p u v : Tmp} (h : fn.results = #[.cell p 25, .tmp u, .tmp v]) (tmps : Array Value) (w : World) (g : Nat) (x y : Value) (fr : Nat × Nat) (a b : Value)
    (hp : tmps.getD p undef = .pointer (some ⟨g, 0, none⟩)) (ha : tmps.getD u undef = a) (hb : tmps.getD v undef = b) (hg : w.heap[g]? = some (.cells #[x, y] 25 fr)) :
    (results fn tmps).run Try.prog w = .ok (.tuple #[.agg #[x, y], a, b]) w := by
  have hp' : tmps[p]?.getD undef = .pointer (some ⟨g, 0, none⟩) := by simpa using hp
  have ha' : tmps[u]?.getD undef = a := by simpa using ha
  have hb' : tmps[v]?.getD undef = b := by simpa using hb
  have hl := run_loadVar_row (P := Try.prog) w g 25 25 #[x, y] fr _ hg Try.underlying25 rfl (by kernel_rfl)
  simp [results, h, hp', ha', hb', asAddr, hl]

set_option maxRecDepth 20000 in
set_option maxHeartbeats 2000000 in
theorem measure_at (W : World) (B g cap : Nat) (p0 : ByteArray × Int) (mid : List (ByteArray × Int)) (pe : ByteArray × Int) (h : OwnP W B g cap (p0 :: (mid ++ [pe]))) (hml : mid.length < 1000000) :
    Calls Try.prog 40 #[.slice (some ⟨g, 0, none⟩) (mid.length + 2) cap] W (GeoAt W (measS p0.1 mid pe.2)) := by
  have hg := h.lt
  haveI : Old g W := ⟨hg⟩
  have hle := h.le
  have cl0 : W.cell? ⟨g, 0, none⟩ = some (.string p0.1) := h.cell0 0 (by simp)
  have cle : W.cell? ⟨g, (mid.length + 1) * 2 + 1, none⟩ = some (.int .i64 pe.2) := by
    have := h.cell1 (mid.length + 1) (by simp)
    rw [Nat.mul_comm] at this
    simpa using this
  have cm0 : ∀ m (hm : m < mid.length), W.cell? ⟨g, 2 + m * 2, none⟩ = some (.string (mid[m]).1) := fun m hm => by
    have := h.cell0 (m + 1) (by simp; omega)
    rw [show 2 * (m + 1) = 2 + m * 2 by omega] at this
    rw [this]
    simp [List.getElem_append_left hm]
  have cm1 : ∀ m (hm : m < mid.length), W.cell? ⟨g, 2 + m * 2 + 1, none⟩ = some (.int .i64 (mid[m]).2) := fun m hm => by
    have := h.cell1 (m + 1) (by simp; omega)
    rw [show 2 * (m + 1) + 1 = 2 + m * 2 + 1 by omega] at this
    rw [this]
    simp [List.getElem_append_left hm]
  simp only [List.length_cons, List.length_append, List.length_nil] at hle
  have ix0 := fun W : World => run_part_addr2 W g 0 (mid.length + 2) cap 0 (by omega)
  have ix1 := fun W : World => run_part_addr2 W g 0 (mid.length + 2) cap 1 (by omega)
  have ixe := fun W : World => run_part_addr2 W g 0 (mid.length + 2) cap (mid.length + 1) (by omega)
  clear h
  obtain ⟨w0, e0⟩ := p0
  obtain ⟨se, ee⟩ := pe
  simp only at cl0 cle ⊢
  have hpe : (w0.toList == [112, 111, 111, 108]) = decide (w0.data.toList = poolL) := by
    rw [ByteArray.toList_eq]
    by_cases e : w0.data.toList = poolL
    · rw [e]; rfl
    · simp only [e, decide_false, beq_eq_false_iff_ne, ne_eq]
      exact e
  have finz : ∀ (V : World) (tmps : Array Value) (a b : Int), tmps.getD 2 undef = .pointer (some ⟨W.heap.size, 0, none⟩) → tmps.getD 3 undef = .int .i64 a → tmps.getD 4 undef = .int .i64 b →
      Below (W.alloc (.cells #[.slice none 0 0, .int .i64 0] 25)).heap.size (W.alloc (.cells #[.slice none 0 0, .int .i64 0] 25)) V →
      (results Try.f40 tmps).run Try.prog V = .ok (.tuple #[.agg #[.slice none 0 0, .int .i64 0], .int .i64 a, .int .i64 b]) V := fun V tmps a b h2 h3 h4 hb =>
    results_geo rfl _ _ W.heap.size _ _ (0, 0) _ _ h2 h3 h4 ((hb.block _ (by simp)).trans (World.alloc_heap_new _ _))
  unfold measS
  by_cases hpool : w0.data.toList = poolL
  · rw [if_neg (by simpa using hpool)]
    rw [decide_eq_true hpool] at hpe
    cases mid with
    | nil =>
      clear cm0 cm1
      simp only [List.length_nil] at *
      go_enter Try.func40, Try.ntmps40
      go_wp2_with fail
      exact bodyPost_ret (finz _ _ _ _ rfl rfl rfl (by (repeat' (first | (with_reducible exact Below.refl _ _) | (with_reducible refine belowGrU ?_ _) | (with_reducible refine belowAlloc ?_ _) | (with_reducible refine Below.setCell ?_ ?_ _) | (with_reducible refine Below.drew ?_) | (simp [go_sem]; done) | (simp [go_sem]; omega))))) rfl (geoAt_none (by (repeat' (first | (with_reducible exact Below.refl _ _) | (with_reducible refine belowGrU ?_ _) | (with_reducible refine belowAlloc ?_ _) | (with_reducible refine Below.setCell ?_ ?_ _) | (with_reducible refine Below.drew ?_) | (simp [go_sem]; done) | (simp [go_sem]; omega)))))
    | cons y ys =>
      obtain ⟨sy1, ay1⟩ := y
      have c1 := number_any sy1
      have cy0 : W.cell? ⟨g, 2, none⟩ = some (.string sy1) := cm0 0 (by simp)
      have cy1 : W.cell? ⟨g, 2 + 1, none⟩ = some (.int .i64 ay1) := cm1 0 (by simp)
      obtain ⟨⟨nv, okb⟩, hn⟩ : ∃ y, numS sy1 = y := ⟨_, rfl⟩
      rw [hn] at c1
      simp only [hn] at c1 ⊢
      have cn0 : ∀ m (hm : m < ys.length), W.cell? ⟨g, 4 + m * 2, none⟩ = some (.string (ys[m]).1) := fun m hm => by
        have := cm0 (m + 1) (by simp; omega)
        rw [show 2 + (m + 1) * 2 = 4 + m * 2 by omega] at this
        simpa using this
      have cn1 : ∀ m (hm : m < ys.length), W.cell? ⟨g, 4 + m * 2 + 1, none⟩ = some (.int .i64 (ys[m]).2) := fun m hm => by
        have := cm1 (m + 1) (by simp; omega)
        rw [show 2 + (m + 1) * 2 + 1 = 4 + m * 2 + 1 by omega] at this
        simpa using this
      have sl : ∀ W : World, (Instr.slice 62 (.slice (some ⟨g, 0, none⟩) (ys.length + 1 + 2) cap) (some (.int .i64 2)) (some (.int .i64 ((ys.length : Int) + 1 + 2 - 1))) none).run Try.prog W = .ok (.slice (some ⟨g, 4, none⟩) ys.length (cap - 2)) W := fun W => by
        simp only [List.length_cons] at hle
        have := run_slice_parts W g (ys.length + 1 + 2) cap 2 (by omega) (by omega) (by omega)
        rw [show ys.length + 1 + 2 - 1 - 2 = ys.length by omega, show ((ys.length + 1 + 2 : Nat) : Int) - 1 = (ys.length : Int) + 1 + 2 - 1 by omega] at this
        exact this
      clear cm0 cm1 hn
      simp only [List.length_cons] at *
      obtain ⟨M, hM⟩ : ∃ M, ys.length = M := ⟨_, rfl⟩
      rw [hM] at cle ix0 ix1 ixe sl hml hle ⊢
      have HM := Lib.hid hM
      have CM0 := Lib.hid cn0
      have CM1 := Lib.hid cn1
      clear hM cn0 cn1
      cases okb
      · rw [if_neg (by simp)]
        go_enter Try.func40, Try.ntmps40
        go_wp2_with (go_at_call 52; with_reducible refine (c1.at _).mono ?_; rintro e w' ⟨rfl, g2, rfl⟩)
        go_region
        go_wp2_with fail
        exact bodyPost_ret (finz _ _ _ _ rfl rfl rfl (by (repeat' (first | (with_reducible exact Below.refl _ _) | (with_reducible refine belowGrU ?_ _) | (with_reducible refine belowAlloc ?_ _) | (with_reducible refine Below.setCell ?_ ?_ _) | (with_reducible refine Below.drew ?_) | (simp [go_sem]; done) | (simp [go_sem]; omega))))) rfl (geoAt_none (by (repeat' (first | (with_reducible exact Below.refl _ _) | (with_reducible refine belowGrU ?_ _) | (with_reducible refine belowAlloc ?_ _) | (with_reducible refine Below.setCell ?_ ?_ _) | (with_reducible refine Below.drew ?_) | (simp [go_sem]; done) | (simp [go_sem]; omega)))))
      · rw [if_pos rfl]
        go_enter Try.func40, Try.ntmps40
        go_wp2_with (go_at_call 52; with_reducible refine (c1.at _).mono ?_; rintro e w' ⟨rfl, g2, rfl⟩)
        have hbV : Below W.heap.size W ((gr (W.alloc (.cells #[.slice none 0 0, .int .i64 0] 25)) g2).alloc (.cells #[.slice none 0 0, .int .i64 nv] 25)) := by (repeat' (first | (with_reducible exact Below.refl _ _) | (with_reducible refine belowGrU ?_ _) | (with_reducible refine belowAlloc ?_ _) | (with_reducible refine Below.setCell ?_ ?_ _) | (with_reducible refine Below.drew ?_) | (simp [go_sem]; done) | (simp [go_sem]; omega)))
        have hres : ((gr (W.alloc (.cells #[.slice none 0 0, .int .i64 0] 25)) g2).alloc (.cells #[.slice none 0 0, .int .i64 nv] 25)).heap[W.heap.size]? = some (.cells #[.slice none 0 0, .int .i64 0] 25 (0, 0)) := by
          rw [Below.heap_alloc _ _ _ (by rw [gr_size]; simp; omega), gr_heap _ _ (by simp)]
          exact World.alloc_heap_new _ _
        have hgeo := World.alloc_heap_new (gr (W.alloc (.cells #[.slice none 0 0, .int .i64 0] 25)) g2) (.cells #[.slice none 0 0, .int .i64 nv] 25)
        have hDW : W.heap.size < (gr (W.alloc (.cells #[.slice none 0 0, .int .i64 0] 25)) g2).heap.size := by rw [gr_size]; simp; omega
        generalize hD : (gr (W.alloc (.cells #[.slice none 0 0, .int .i64 0] 25)) g2).heap.size = D at hgeo hDW ⊢
        generalize hV : (gr (W.alloc (.cells #[.slice none 0 0, .int .i64 0] 25)) g2).alloc (.cells #[.slice none 0 0, .int .i64 nv] 25) = V0 at hbV hres hgeo ⊢
        clear hD hV c1
        obtain ⟨T, hT⟩ : ∃ T, measLoop [] ys = T := ⟨_, rfl⟩
        have HT : Hid (measLoop [] (ys.drop 0) = T) := hT
        have H0 : Hid (measLoop [] ys = T) := hT
        rw [hT]
        clear hT
        go_loopw [54] (fun i wr => ∃ (m : Nat) (gs : List (Int × Int)) (v : Value), m ≤ M ∧ i = .int .i64 (m : Int) ∧ Hid (measLoop gs (ys.drop m) = T) ∧ Below W.heap.size W wr ∧
            wr.heap[W.heap.size]? = some (.cells #[.slice none 0 0, .int .i64 0] 25 (0, 0)) ∧ wr.heap[D]? = some (.cells #[v, .int .i64 nv] 25 (0, 0)) ∧
            wr.ownsRow W.heap.size 56 2 v gs.length (flatG gs) ∧ (gs = [] → v = .slice none 0 0) ∧ gs.length ≤ m)
          (fun i _ => M - (intOf i).toNat)
        case atStart => exact ⟨0, [], .slice none 0 0, by omega, rfl, HT, hbV, hres, hgeo, World.ownsRow_nil _ _ _ _, fun _ => rfl, by simp⟩
        case round =>
          obtain ⟨m, gs, v, hm, rfl, HL, hb, hrs, hge, hown, hnil, hgl⟩ := hrel
          clear hbV hres hgeo HT
          have hD1 : D < wr.heap.size := (Array.getElem?_eq_some_iff.1 hge).1
          haveI : Old g wr := ⟨by have := hb.size; omega⟩
          haveI : Old D wr := ⟨hD1⟩
          haveI : Old W.heap.size wr := ⟨by omega⟩
          have hgc0 : wr.cell? ⟨D, 0, none⟩ = some v := by rw [cell_of_row wr D 0 _ _ _ hge]; rfl
          have hgc1 : wr.cell? ⟨D, 1, none⟩ = some (.int .i64 nv) := by rw [cell_of_row wr D 1 _ _ _ hge]; rfl
          have hgf : ∀ j, wr.frozen? ⟨D, j, none⟩ = false := fun j => by simp [World.frozen?, hge]
          have hrc0 : wr.cell? ⟨W.heap.size, 0, none⟩ = some (.slice none 0 0) := by rw [cell_of_row wr W.heap.size 0 _ _ _ hrs]; rfl
          have hrc1 : wr.cell? ⟨W.heap.size, 1, none⟩ = some (.int .i64 0) := by rw [cell_of_row wr W.heap.size 1 _ _ _ hrs]; rfl
          have hrf : ∀ j, wr.frozen? ⟨W.heap.size, j, none⟩ = false := fun j => by simp [World.frozen?, hrs]
          by_cases hlt : m < M
          · have hlen := HM.out
            have hl := HL.out
            rw [List.drop_eq_getElem_cons (by omega), measLoop] at hl
            have hy0 := (hb.cell (p := ⟨g, 4 + m * 2, none⟩) hg).trans (CM0.out m (by omega))
            have hy1 := (hb.cell (p := ⟨g, 4 + m * 2 + 1, none⟩) hg).trans (CM1.out m (by omega))
            obtain ⟨⟨sy, ay⟩, hy⟩ : ∃ y, ys[m]'(by omega) = y := ⟨_, rfl⟩
            rw [hy] at hl hy0 hy1
            simp only at hl hy0 hy1
            have c := group_any sy
            rw [groupV_S] at c
            obtain ⟨⟨⟨kd, wd⟩, okg⟩, hn⟩ : ∃ y, groupS sy = y := ⟨_, rfl⟩
            rw [hn] at hl c
            simp only at hl c
            have hix := fun W : World => run_part_addr2 W g 4 M (cap - 2) m hlt
            clear hlen HL hy hn
            cases okg
            · rw [if_neg (by simp)] at hl
              subst hl
              go_wp2_with (go_at_call 53; with_reducible refine (c.at _).mono ?_; rintro e w' ⟨rfl, g4, rfl⟩)
              go_region
              go_wp2_with fail
              have hX : ((wr.setCell ⟨W.heap.size, 0, none⟩ (.slice none 0 0)).setCell ⟨W.heap.size, 1, none⟩ (.int .i64 0)).heap[W.heap.size]? = some (.cells #[.slice none 0 0, .int .i64 0] 25 (0, 0)) := heap_set_cells (heap_set_cells hrs _) _
              have hbX : Below W.heap.size W ((wr.setCell ⟨W.heap.size, 0, none⟩ (.slice none 0 0)).setCell ⟨W.heap.size, 1, none⟩ (.int .i64 0)) := Below.setCell (Below.setCell hb (Nat.le_refl _) _) (Nat.le_refl _) _
              generalize (wr.setCell ⟨W.heap.size, 0, none⟩ (.slice none 0 0)).setCell ⟨W.heap.size, 1, none⟩ (.int .i64 0) = X at hX hbX ⊢
              have hXl := (Array.getElem?_eq_some_iff.1 hX).1
              refine bodyPost_ret (results_geo rfl _ _ W.heap.size _ _ (0, 0) _ _ rfl rfl rfl (?_ : _ = some (Obj.cells #[.slice none 0 0, .int .i64 0] 25 (0, 0)))) rfl (geoAt_none ?_)
              · refine Eq.trans (Below.block (B := X.heap.size) (w := X) ?_ W.heap.size hXl) hX
                (repeat' (first | (with_reducible exact Below.refl _ _) | (with_reducible refine belowGrU ?_ _) | (with_reducible refine belowAlloc ?_ _) | (with_reducible refine Below.setCell ?_ ?_ _) | (with_reducible refine Below.drew ?_) | (simp [go_sem]; done) | (simp [go_sem]; omega)))
              · refine Below.trans hbX (Below.mono (B := X.heap.size) ?_ (by omega))
                (repeat' (first | (with_reducible exact Below.refl _ _) | (with_reducible refine belowGrU ?_ _) | (with_reducible refine belowAlloc ?_ _) | (with_reducible refine Below.setCell ?_ ?_ _) | (with_reducible refine Below.drew ?_) | (simp [go_sem]; done) | (simp [go_sem]; omega)))
            · rw [if_pos rfl] at hl
              have HL2 := Lib.hid hl
              clear hl
              have hownD := ownsRow_type hown hge (by decide)
              have hownR := ownsRow_type hown hrs (by decide)
              go_wp2_with (first
                | (go_at_call 53; with_reducible refine (c.at _).mono ?_; rintro e w' ⟨rfl, g4, rfl⟩)
                | (at_builtin; refine wpList_appG rfl _ _ rfl W.heap.size v gs kd wd _ rfl rfl (World.ownsRow.alloc (World.ownsRow.alloc (ownsRow_gr (World.ownsRow.alloc hown _) _) _) _) (by simp [go_sem]) (by simp [go_sem]) (by simp only [World.size_alloc, gr_size]; omega) (by omega) ?_; intro g' cap' W3 hown3 hgr3; have hge3 := heap_through hge (D := D) hgr3 (by omega) hownD; have hrs3 := heap_through hrs (D := W.heap.size) hgr3 (by omega) hownR; have hz0 := cell_of_row W3 D 0 _ _ _ hge3; have hz1 := frozen_of_row hge3 0))
              have hb3 : Below W.heap.size W W3 := by
                refine Below.grown (belowAlloc' (belowAlloc' (belowGr' (belowAlloc' hb _) _) _) _) hgr3 (by simp only [World.size_alloc, gr_size]; omega) (fun k hk => (hown.lt k hk).1)
              refine ⟨⟨m + 1, gs ++ [(kd, wd)], .slice (some ⟨g', 0, none⟩) (gs.length + 1) cap', hlt, by go_num, HL2, Below.setCell hb3 (by show W.heap.size ≤ D; omega) _, ?_, heap_set_cells hge3 _,
                ownsRow_set hown3 D 0 _ (ownsRow_type hown3 hge3 (by decide)), by simp, by simp; omega⟩, by simp [intOf]; omega⟩
              rw [Below.heap_setCell _ _ _ _ (by show W.heap.size ≠ D; omega)]
              exact hrs3
          · obtain rfl : m = M := by omega
            have hlen := HM.out
            have hl := HL.out
            rw [List.drop_of_length_le (by omega), measLoop] at hl
            subst hl
            clear HL hlen
            cases gs with
            | nil =>
              have hv := hnil rfl
              subst hv
              have hX : ((wr.setCell ⟨W.heap.size, 0, none⟩ (.slice none 0 0)).setCell ⟨W.heap.size, 1, none⟩ (.int .i64 0)).heap[W.heap.size]? = some (.cells #[.slice none 0 0, .int .i64 0] 25 (0, 0)) := heap_set_cells (heap_set_cells hrs _) _
              have hbX : Below W.heap.size W ((wr.setCell ⟨W.heap.size, 0, none⟩ (.slice none 0 0)).setCell ⟨W.heap.size, 1, none⟩ (.int .i64 0)) := Below.setCell (Below.setCell hb (Nat.le_refl _) _) (Nat.le_refl _) _
              go_wp2_with fail
              exact bodyPost_ret (results_geo rfl _ _ W.heap.size _ _ (0, 0) _ _ rfl rfl rfl hX) rfl (by rw [H0.out]; exact geoAt_none hbX)
            | cons g0 gs =>
              rcases hown.2 with ⟨_, h0⟩ | ⟨gb, capb, cur, rfl, hbb, hgb, hlb⟩
              · simp at h0
              · simp only [List.length_cons] at hgc0 hown
                have hX : ((wr.setCell ⟨W.heap.size, 0, none⟩ (.slice (some ⟨gb, 0, none⟩) (gs.length + 1) capb)).setCell ⟨W.heap.size, 1, none⟩ (.int .i64 nv)).heap[W.heap.size]? = some (.cells #[.slice (some ⟨gb, 0, none⟩) (gs.length + 1) capb, .int .i64 nv] 25 (0, 0)) := heap_set_cells (heap_set_cells hrs _) _
                have hbX : Below W.heap.size W ((wr.setCell ⟨W.heap.size, 0, none⟩ (.slice (some ⟨gb, 0, none⟩) (gs.length + 1) capb)).setCell ⟨W.heap.size, 1, none⟩ (.int .i64 nv)) := Below.setCell (Below.setCell hb (Nat.le_refl _) _) (Nat.le_refl _) _
                have hownR := ownsRow_type hown hrs (by decide)
                have hownX := ownsRow_set (ownsRow_set hown W.heap.size 0 (.slice (some ⟨gb, 0, none⟩) (gs.length + 1) capb) hownR) W.heap.size 1 (.int .i64 nv) hownR
                go_wp2_with fail
                exact bodyPost_ret (results_geo rfl _ _ W.heap.size _ _ (0, 0) _ _ rfl rfl rfl hX) rfl (by rw [H0.out]; exact ⟨_, rfl, hownX, (fun h => by cases h), hbX⟩)
  · rw [if_pos hpool]
    rw [decide_eq_false hpool] at hpe
    go_enter Try.func40, Try.ntmps40
    go_wp2_with fail
    exact bodyPost_ret (finz _ _ _ _ rfl rfl rfl (by (repeat' (first | (with_reducible exact Below.refl _ _) | (with_reducible refine belowGrU ?_ _) | (with_reducible refine belowAlloc ?_ _) | (with_reducible refine Below.setCell ?_ ?_ _) | (with_reducible refine Below.drew ?_) | (simp [go_sem]; done) | (simp [go_sem]; omega))))) rfl (geoAt_none (by (repeat' (first | (with_reducible exact Below.refl _ _) | (with_reducible refine belowGrU ?_ _) | (with_reducible refine belowAlloc ?_ _) | (with_reducible refine Below.setCell ?_ ?_ _) | (with_reducible refine Below.drew ?_) | (simp [go_sem]; done) | (simp [go_sem]; omega)))))

end Go.Proofs.Ytajionjffijffaa

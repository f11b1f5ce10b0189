/-
  script.Right: what is wrong with a script that lies in rows of a call's own.
-/
import Derived.Test.YtajionjffijffaaMeas
import Derived.Test.YtajionjffijffaaGeomR
namespace Go.Proofs.Ytajionjffijffaa
open Go.RowKit Go.Sort

def goodL (gs : List (Int × Int)) (secs : Int) : Bool := decide (1 ≤ gs.length) && decide (gs.length ≤ 4) && decide (24 ≤ secs) && decide (secs ≤ 4096) && gs.all fun p => oneG p.1 p.2
theorem flatG_even : ∀ (ps : List (Int × Int)) (k : Nat) (h : k < ps.length), (flatG ps)[k * 2]? = some (.int .i64 (ps[k]).1)
  | p :: ps, 0, _ => rfl
  | p :: ps, k + 1, h => by
    have := flatG_even ps k (by simpa using h)
    rw [show (k + 1) * 2 = k * 2 + 1 + 1 by omega]
    simpa [flatG] using this
theorem flatG_odd : ∀ (ps : List (Int × Int)) (k : Nat) (h : k < ps.length), (flatG ps)[k * 2 + 1]? = some (.int .i64 (ps[k]).2)
  | p :: ps, 0, _ => rfl
  | p :: ps, k + 1, h => by
    have := flatG_odd ps k (by simpa using h)
    rw [show (k + 1) * 2 + 1 = k * 2 + 1 + 1 + 1 by omega]
    simpa [flatG] using this
theorem ownsRow_cell {W : World} {B : Nat} {e : TypeId} {sz : Nat} {v : Value} {n : Nat} {xs : List Value} (h : W.ownsRow B e sz v n xs) {g : Nat} (hg : v.ownBlock = some g) {j : Nat} {u : Value} (hu : xs[j]? = some u) : W.cell? ⟨g, j, none⟩ = some u := by
  have := h.cells hg j u hu
  have e : (⟨g, 0, none⟩ : Addr).add j = ⟨g, j, none⟩ := by unfold Addr.add; split <;> simp_all
  rwa [e] at this
theorem slc_of {W : World} {B : Nat} {v : Value} {gs : List (Int × Int)} (h : W.ownsRow B 56 2 v gs.length (flatG gs)) :
    ∃ s : Slc, v = .slice s.ad s.len s.cap ∧ s.len = gs.length ∧ (∀ k (hk : k < gs.length), s.x k = (gs[k]).1 ∧ s.y k = (gs[k]).2) ∧ GM s W := by
  rcases h.2 with ⟨rfl, h0⟩ | ⟨g, cap, cur, rfl, hb, hg, hrest⟩
  · refine ⟨⟨none, 0, 0, 0, 0, fun _ => 0, fun _ => 0⟩, rfl, h0.symm, fun k hk => by omega, ⟨fun k hk => absurd hk (Nat.not_lt_zero _), fun k hk => absurd hk (Nat.not_lt_zero _), fun k hk => absurd hk (Nat.not_lt_zero _), fun k hk => absurd hk (Nat.not_lt_zero _)⟩⟩
  · refine ⟨⟨some ⟨g, 0, none⟩, g, 0, gs.length, cap, fun k => (gs.getD k (0, 0)).1, fun k => (gs.getD k (0, 0)).2⟩, rfl, rfl, fun k hk => by simp [List.getD, hk], ⟨fun _ _ => rfl, fun _ _ => (Array.getElem?_eq_some_iff.1 hg).1, fun k hk => ?_, fun k hk => ?_⟩⟩
    · have := ownsRow_cell h (g := g) rfl (flatG_even gs k hk)
      simpa [List.getD, hk] using this
    · have := ownsRow_cell h (g := g) rfl (flatG_odd gs k hk)
      simpa [List.getD, hk] using this
theorem goodL_iff {s : Slc} {gs : List (Int × Int)} {secs : Int} (hl : s.len = gs.length) (hx : ∀ k (hk : k < gs.length), s.x k = (gs[k]).1 ∧ s.y k = (gs[k]).2) : goodG s secs ↔ goodL gs secs = true := by
  have hall : allOne s ↔ ∀ p ∈ gs, oneG p.1 p.2 = true := by
    unfold allOne
    rw [hl]
    constructor
    · intro h p hp
      obtain ⟨k, hk, rfl⟩ := List.getElem_of_mem hp
      have := h k hk
      rwa [(hx k hk).1, (hx k hk).2] at this
    · intro h k hk
      rw [(hx k hk).1, (hx k hk).2]
      exact h _ (List.getElem_mem hk)
  unfold goodG goodL
  rw [hl, hall]
  simp only [Bool.and_eq_true, decide_eq_true_eq, List.all_eq_true]
  constructor
  · rintro ⟨h1, h2, h3, h4, h5⟩; exact ⟨⟨⟨⟨h1, h2⟩, h3⟩, h4⟩, h5⟩
  · rintro ⟨⟨⟨⟨h1, h2⟩, h3⟩, h4⟩, h5⟩; exact ⟨h1, h2, h3, h4, h5⟩
theorem geomRight_at {W : World} {B : Nat} {v : Value} {gs : List (Int × Int)} {secs : Int} (h : W.ownsRow B 56 2 v gs.length (flatG gs)) (hl : gs.length < 1000000) :
    Calls Try.prog 35 #[.agg #[v, .int .i64 secs]] W (Ret (.bool (goodL gs secs)) W) := by
  obtain ⟨s, rfl, hs, hx, hm⟩ := slc_of h
  have hi := goodL_iff (secs := secs) hs hx
  cases hg : goodL gs secs with
  | true => exact right_yes (hi.2 hg) W
  | false => exact right_no (fun h => by rw [hi.1 h] at hg; cases hg) (by omega) W

/-! ### acts in a row -/
def flatA : List Act5 → List Value
  | [] => []
  | x :: xs => .string x.word :: .int .i64 x.n0 :: .int .i64 x.n1 :: .int .i64 x.n2 :: .int .i64 x.n3 :: flatA xs
theorem flatA_len : ∀ ps, (flatA ps).length = ps.length * 5
  | [] => rfl
  | p :: ps => by simp [flatA, flatA_len ps]; omega
theorem flatA_append : ∀ a b, flatA (a ++ b) = flatA a ++ flatA b
  | [], b => rfl
  | p :: a, b => by simp [flatA, flatA_append a b]
theorem flatA_at : ∀ (ps : List Act5) (k : Nat) (h : k < ps.length), (flatA ps)[k * 5]? = some (.string (ps[k]).word) ∧ (flatA ps)[k * 5 + 1]? = some (.int .i64 (ps[k]).n0) ∧ (flatA ps)[k * 5 + 2]? = some (.int .i64 (ps[k]).n1) ∧
    (flatA ps)[k * 5 + 3]? = some (.int .i64 (ps[k]).n2) ∧ (flatA ps)[k * 5 + 4]? = some (.int .i64 (ps[k]).n3)
  | p :: ps, 0, _ => ⟨rfl, rfl, rfl, rfl, rfl⟩
  | p :: ps, k + 1, h => by
    have := flatA_at ps k (by simpa using h)
    rw [show (k + 1) * 5 = k * 5 + 1 + 1 + 1 + 1 + 1 by omega]
    simpa [flatA] using this
def stepsS (n : Nat) : List Act5 → Int
  | [] => if 1000 < n then 10 else 0
  | x :: xs => if stepS x = 0 then stepsS n xs else stepS x
def rightS (gs : List (Int × Int)) (secs : Int) (xs : List Act5) : Int := if goodL gs secs = true then stepsS xs.length xs else 1

set_option maxRecDepth 20000 in
set_option maxHeartbeats 1000000 in
theorem Right_at {W : World} {B : Nat} {vG vL : Value} {gs : List (Int × Int)} {secs : Int} {xs : List Act5} (hG : W.ownsRow B 56 2 vG gs.length (flatG gs)) (hgl : gs.length < 1000000)
    (hL : W.ownsRow B 40 5 vL xs.length (flatA xs)) (hxl : xs.length < 1000000) :
    Calls Try.prog 19 #[.agg #[vG, .int .i64 secs, vL]] W (Ret (.int .i64 (rightS gs secs xs)) W) := by
  obtain ⟨R, hR⟩ : ∃ R, rightS gs secs xs = R := ⟨_, rfl⟩
  rw [hR]
  unfold rightS at hR
  have cG := Calls.at (geomRight_at (W := W.alloc (.cells #[vG, .int .i64 secs, vL] 28)) (secs := secs) (hG.alloc _) hgl)
  cases hg : goodL gs secs with
  | false =>
    rw [hg] at hR cG
    have hR : (1 : Int) = R := hR
    subst hR
    go_enter Try.func19, Try.ntmps19
    go_wp2_with (go_at_call 35; with_reducible refine cG.mono ?_; rintro e w' ⟨rfl, g, rfl⟩)
    go_ret
    exact Ret.mk rfl (by (repeat' (first | (with_reducible exact Below.refl _ _) | (with_reducible refine belowGrU ?_ _) | (with_reducible refine belowAlloc ?_ _) | (with_reducible refine Below.setCell ?_ ?_ _) | (with_reducible refine Below.drew ?_) | (simp [go_sem]; done) | (simp [go_sem]; omega))))
  | true =>
    rw [hg] at hR cG
    have hR : stepsS xs.length xs = R := hR
    have HR : Hid (stepsS xs.length (xs.drop 0) = R) := Lib.hid hR
    clear hR hg
    obtain ⟨ad, cap, rfl, hcell⟩ : ∃ ad cap, vL = .slice ad xs.length cap ∧ ∀ k, k < xs.length → ∃ g, ad = some ⟨g, 0, none⟩ ∧ Old g W ∧ ∀ j u, (flatA xs)[j]? = some u → W.cell? ⟨g, j, none⟩ = some u := by
      rcases hL.2 with ⟨rfl, h0⟩ | ⟨g, cap, cur, rfl, _, hgb, _⟩
      · exact ⟨none, 0, by rw [h0], fun k hk => by omega⟩
      · exact ⟨_, cap, rfl, fun k hk => ⟨g, rfl, ⟨(Array.getElem?_eq_some_iff.1 hgb).1⟩, fun j u hu => ownsRow_cell hL (g := g) rfl hu⟩⟩
    obtain ⟨M, hM⟩ : ∃ M, xs.length = M := ⟨_, rfl⟩
    rw [hM] at cG HR hxl ⊢
    have HM := Lib.hid hM
    have HC := Lib.hid hcell
    clear hM hcell hL hG
    go_enter Try.func19, Try.ntmps19
    go_wp2_with (go_at_call 35; with_reducible refine cG.mono ?_; rintro e w' ⟨rfl, g, rfl⟩)
    go_loopw [13] (fun i wr => ∃ k : Nat, k ≤ M ∧ i = .int .i64 (k : Int) ∧ Hid (stepsS M (xs.drop k) = R) ∧ ∃ g' : Gr, wr = gr (W.alloc (.cells #[vG, .int .i64 secs, .slice ad M cap] 28)) g')
      (fun i _ => M - (intOf i).toNat)
    case atStart => exact ⟨0, by omega, rfl, HR, g, rfl⟩
    case round =>
      obtain ⟨k, hk, rfl, HK, g', rfl⟩ := hrel
      by_cases hlt : k < M
      · have hlen := HM.out
        have hl := HK.out
        rw [List.drop_eq_getElem_cons (by omega), stepsS] at hl
        obtain ⟨gb, hgb, ho, hc⟩ := HC.out k (by omega)
        subst hgb
        obtain ⟨f0, f1, f2, f3, f4⟩ := flatA_at xs k (by omega)
        have d0 := hc _ _ f0
        have d1 := hc _ _ f1
        have d2 := hc _ _ f2
        have d3 := hc _ _ f3
        have d4 := hc _ _ f4
        obtain ⟨⟨y0, y1, y2, y3, y4⟩, hy⟩ : ∃ y, xs[k]'(by omega) = y := ⟨_, rfl⟩
        rw [hy] at hl d0 d1 d2 d3 d4
        simp only at d0 d1 d2 d3 d4
        have c := step_any ⟨y0, y1, y2, y3, y4⟩
        simp only [Act5.v, Act5.cs] at c
        have hix : ∀ W : World, (Instr.indexAt 26 (.slice (some ⟨gb, 0, none⟩) M cap) (.int .i64 (k : Int))).run Try.prog W = .ok (.pointer (some ⟨gb, k * 5, none⟩)) W := fun W => by
          have e : (⟨gb, 0, none⟩ : Addr).add (k * 5) = ⟨gb, k * 5, none⟩ := by unfold Addr.add; split <;> simp_all
          simp [Instr.indexAt, asIntOf, run_underlying Try.underlying26, e]
          intro h'
          omega
        clear hlen HK HR hy f0 f1 f2 f3 f4 hc
        obtain ⟨z, hz⟩ : ∃ z, stepS ⟨y0, y1, y2, y3, y4⟩ = z := ⟨_, rfl⟩
        rw [hz] at hl c
        clear hz
        by_cases h0 : z = 0
        · rw [if_pos h0] at hl
          subst h0
          have HL2 := Lib.hid hl
          clear hl
          go_wp2_with (go_at_call 36; with_reducible refine (c.at _).mono ?_; rintro e w' ⟨rfl, g2, rfl⟩)
          exact ⟨⟨k + 1, hlt, by go_num, HL2, ex_gr_alloc _ _ _ _⟩, by simp [intOf]; omega⟩
        · rw [if_neg h0] at hl
          subst hl
          have hb0 : (z == 0) = false := by rw [beq_eq_false_iff_ne]; exact h0
          have hb1 : (z != 0) = true := by simp [h0]
          go_wp2_with (go_at_call 36; with_reducible refine (c.at _).mono ?_; rintro e w' ⟨rfl, g2, rfl⟩)
          go_ret
          exact Ret.mk rfl (by (repeat' (first | (with_reducible exact Below.refl _ _) | (with_reducible refine belowGrU ?_ _) | (with_reducible refine belowAlloc ?_ _) | (with_reducible refine Below.setCell ?_ ?_ _) | (with_reducible refine Below.drew ?_) | (simp [go_sem]; done) | (simp [go_sem]; omega))))
      · obtain rfl : k = M := by omega
        have hlen := HM.out
        have hl := HK.out
        rw [List.drop_of_length_le (by omega), stepsS] at hl
        clear HK HR hlen
        by_cases hk : 1000 < k
        · rw [if_pos hk] at hl
          subst hl
          have hk' : 1000 < (k : Int) := by omega
          go_wp2_with fail
          go_ret
          exact Ret.mk rfl (by (repeat' (first | (with_reducible exact Below.refl _ _) | (with_reducible refine belowGrU ?_ _) | (with_reducible refine belowAlloc ?_ _) | (with_reducible refine Below.setCell ?_ ?_ _) | (with_reducible refine Below.drew ?_) | (simp [go_sem]; done) | (simp [go_sem]; omega))))
        · rw [if_neg hk] at hl
          subst hl
          have hk' : (k : Int) ≤ 1000 := by omega
          go_wp2_with fail
          go_ret
          exact Ret.mk rfl (by (repeat' (first | (with_reducible exact Below.refl _ _) | (with_reducible refine belowGrU ?_ _) | (with_reducible refine belowAlloc ?_ _) | (with_reducible refine Below.setCell ?_ ?_ _) | (with_reducible refine Below.drew ?_) | (simp [go_sem]; done) | (simp [go_sem]; omega))))

end Go.Proofs.Ytajionjffijffaa

/-
  script.Right of a script whose rows are read, wherever they lie.
-/
import Derived.Test.YtajionjffijffaaSame
namespace Go.Proofs.Ytajionjffijffaa
open Go.RowKit Go.Sort

theorem slc_rd {W : World} {v : Value} {gs : List (Int × Int)} {m : Nat} (h : Rd W 2 m v (flatG gs)) :
    ∃ s : Slc, v = .slice s.ad s.len s.cap ∧ s.len = gs.length ∧ (∀ k (hk : k < gs.length), s.x k = (gs[k]).1 ∧ s.y k = (gs[k]).2) ∧ GM s W := by
  obtain ⟨ad, blk, off, cap, rfl, h⟩ := h
  have hm := flatG_n h.len
  subst hm
  refine ⟨⟨ad, blk, off, gs.length, cap, fun k => (gs.getD k (0, 0)).1, fun k => (gs.getD k (0, 0)).2⟩, rfl, rfl, fun k hk => by simp [List.getD, hk], ⟨fun k hk => h.addr (by simp at hk; omega), fun k hk => h.lt (by simp at hk; omega), fun k hk => ?_, fun k hk => ?_⟩⟩
  · have := (h.grp (k := k) hk).1
    simpa [List.getD, show k < gs.length from hk] using this
  · have := (h.grp (k := k) hk).2
    simpa [List.getD, show k < gs.length from hk] using this
theorem geomRight_rd {W : World} {v : Value} {gs : List (Int × Int)} {secs : Int} {m : Nat} (h : Rd W 2 m v (flatG gs)) (hl : m < 1000000) :
    Calls Try.prog 35 #[.agg #[v, .int .i64 secs]] W (Ret (.bool (goodL gs secs)) W) := by
  have hmg : m = gs.length := by obtain ⟨ad, blk, off, cap, rfl, h⟩ := h; exact flatG_n h.len
  obtain ⟨s, rfl, hs, hx, hm⟩ := slc_rd h
  have hi := goodL_iff (secs := secs) hs hx
  cases hg : goodL gs secs with
  | true => exact right_yes (hi.2 hg) W
  | false => exact right_no (fun h => by rw [hi.1 h] at hg; cases hg) (by omega) W

set_option maxRecDepth 20000 in
set_option maxHeartbeats 1000000 in
theorem Right_rd {W : World} {vG vL : Value} {gs : List (Int × Int)} {secs : Int} {xs : List Act5} {m n : Nat} (hG : Rd W 2 m vG (flatG gs)) (hgl : m < 1000000)
    (hL : Rd W 5 n vL (flatA xs)) (hxl : n < 1000000) :
    Calls Try.prog 19 #[.agg #[vG, .int .i64 secs, vL]] W (Ret (.int .i64 (rightS gs secs xs)) W) := by
  obtain ⟨R, hR⟩ : ∃ R, rightS gs secs xs = R := ⟨_, rfl⟩
  rw [hR]
  unfold rightS at hR
  have cG := Calls.at (geomRight_rd (W := W.alloc (.cells #[vG, .int .i64 secs, vL] 28)) (secs := secs) (hG.grow (bel1' _ _)) hgl)
  cases hg : goodL gs secs with
  | false =>
    rw [hg] at hR cG
    have hR : (1 : Int) = R := hR
    subst hR
    go_enter Try.func19, Try.ntmps19
    go_wp2_with (go_at_call 35; with_reducible refine cG.mono ?_; rintro e w' ⟨rfl, g, rfl⟩)
    go_ret
    exact Ret.mk rfl (by (repeat' (first | (with_reducible exact Below.refl _ _) | (with_reducible refine belowGrU ?_ _) | (with_reducible refine belowAlloc ?_ _) | (with_reducible refine Below.setCell ?_ ?_ _) | (with_reducible refine Below.drew ?_) | (simp [go_sem]; done) | (simp [go_sem]; omega))))
  | true =>
    rw [hg] at hR cG
    have hR : stepsS xs.length xs = R := hR
    have HR : Hid (stepsS xs.length (xs.drop 0) = R) := Lib.hid hR
    clear hR hg
    obtain ⟨ad, blk, off, cap, rfl, hL⟩ := hL
    have hnx := flatA_n hL.len
    rw [hnx] at hxl hL cG ⊢
    have hcell : ∀ k, k < xs.length → ∃ g o, ad = some ⟨g, o, none⟩ ∧ Old g W ∧ ∀ j u, (flatA xs)[j]? = some u → W.cell? ⟨g, o + j, none⟩ = some u := fun k hk => ⟨blk, off, hL.addr (by omega), ⟨hL.lt (by omega)⟩, hL.cell⟩
    clear hnx
    obtain ⟨M, hM⟩ : ∃ M, xs.length = M := ⟨_, rfl⟩
    rw [hM] at HR hxl cG ⊢
    have HM := Lib.hid hM
    have HC := Lib.hid hcell
    clear hM hcell hL hG
    go_enter Try.func19, Try.ntmps19
    go_wp2_with (go_at_call 35; with_reducible refine cG.mono ?_; rintro e w' ⟨rfl, g, rfl⟩)
    go_loopw [13] (fun i wr => ∃ k : Nat, k ≤ M ∧ i = .int .i64 (k : Int) ∧ Hid (stepsS M (xs.drop k) = R) ∧ ∃ g' : Gr, wr = gr (W.alloc (.cells #[vG, .int .i64 secs, .slice ad M cap] 28)) g')
      (fun i _ => M - (intOf i).toNat)
    case atStart => exact ⟨0, by omega, rfl, HR, g, rfl⟩
    case round =>
      obtain ⟨k, hk, rfl, HK, g', rfl⟩ := hrel
      by_cases hlt : k < M
      · have hlen := HM.out
        have hl := HK.out
        rw [List.drop_eq_getElem_cons (by omega), stepsS] at hl
        obtain ⟨gb, og, hgb, ho, hc⟩ := HC.out k (by omega)
        subst hgb
        obtain ⟨f0, f1, f2, f3, f4⟩ := flatA_at xs k (by omega)
        have d0 := hc _ _ f0
        have d1 : W.cell? ⟨gb, og + k * 5 + 1, none⟩ = _ := hc _ _ f1
        have d2 : W.cell? ⟨gb, og + k * 5 + 2, none⟩ = _ := hc _ _ f2
        have d3 : W.cell? ⟨gb, og + k * 5 + 3, none⟩ = _ := hc _ _ f3
        have d4 : W.cell? ⟨gb, og + k * 5 + 4, none⟩ = _ := hc _ _ f4
        obtain ⟨⟨y0, y1, y2, y3, y4⟩, hy⟩ : ∃ y, xs[k]'(by omega) = y := ⟨_, rfl⟩
        rw [hy] at hl d0 d1 d2 d3 d4
        simp only at d0 d1 d2 d3 d4
        have c := step_any ⟨y0, y1, y2, y3, y4⟩
        simp only [Act5.v, Act5.cs] at c
        have hix : ∀ W : World, (Instr.indexAt 26 (.slice (some ⟨gb, og, none⟩) M cap) (.int .i64 (k : Int))).run Try.prog W = .ok (.pointer (some ⟨gb, og + k * 5, none⟩)) W := fun W => by simp [go_sem, hlt]
        clear hlen HK HR hy f0 f1 f2 f3 f4 hc
        obtain ⟨z, hz⟩ : ∃ z, stepS ⟨y0, y1, y2, y3, y4⟩ = z := ⟨_, rfl⟩
        rw [hz] at hl c
        clear hz
        by_cases h0 : z = 0
        · rw [if_pos h0] at hl
          subst h0
          have HL2 := Lib.hid hl
          clear hl
          go_wp2_with (go_at_call 36; with_reducible refine (c.at _).mono ?_; rintro e w' ⟨rfl, g2, rfl⟩)
          exact ⟨⟨k + 1, hlt, by go_num, HL2, ex_gr_alloc _ _ _ _⟩, by simp [intOf]; omega⟩
        · rw [if_neg h0] at hl
          subst hl
          have hb0 : (z == 0) = false := by rw [beq_eq_false_iff_ne]; exact h0
          have hb1 : (z != 0) = true := by simp [h0]
          go_wp2_with (go_at_call 36; with_reducible refine (c.at _).mono ?_; rintro e w' ⟨rfl, g2, rfl⟩)
          go_ret
          exact Ret.mk rfl (by (repeat' (first | (with_reducible exact Below.refl _ _) | (with_reducible refine belowGrU ?_ _) | (with_reducible refine belowAlloc ?_ _) | (with_reducible refine Below.setCell ?_ ?_ _) | (with_reducible refine Below.drew ?_) | (simp [go_sem]; done) | (simp [go_sem]; omega))))
      · obtain rfl : k = M := by omega
        have hlen := HM.out
        have hl := HK.out
        rw [List.drop_of_length_le (by omega), stepsS] at hl
        clear HK HR hlen
        by_cases hk : 1000 < k
        · rw [if_pos hk] at hl
          subst hl
          have hk' : 1000 < (k : Int) := by omega
          go_wp2_with fail
          go_ret
          exact Ret.mk rfl (by (repeat' (first | (with_reducible exact Below.refl _ _) | (with_reducible refine belowGrU ?_ _) | (with_reducible refine belowAlloc ?_ _) | (with_reducible refine Below.setCell ?_ ?_ _) | (with_reducible refine Below.drew ?_) | (simp [go_sem]; done) | (simp [go_sem]; omega))))
        · rw [if_neg hk] at hl
          subst hl
          have hk' : (k : Int) ≤ 1000 := by omega
          go_wp2_with fail
          go_ret
          exact Ret.mk rfl (by (repeat' (first | (with_reducible exact Below.refl _ _) | (with_reducible refine belowGrU ?_ _) | (with_reducible refine belowAlloc ?_ _) | (with_reducible refine Below.setCell ?_ ?_ _) | (with_reducible refine Below.drew ?_) | (simp [go_sem]; done) | (simp [go_sem]; omega))))

end Go.Proofs.Ytajionjffijffaa

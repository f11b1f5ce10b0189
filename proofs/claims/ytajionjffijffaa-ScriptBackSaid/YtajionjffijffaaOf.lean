/-
  polder/polderlaw25.Of: the acts copied.
-/
import Derived.Test.YtajionjffijffaaRd
namespace Go.Proofs.Ytajionjffijffaa
open Go.RowKit Go.Sort

/-! ### of -/
theorem run_appof {V : World} {B : Nat} {v : Value} {xs : List Act5} {ad : Nat} (h : V.ownsRow B 40 5 v xs.length (flatA xs)) (hB : B ≤ V.heap.size) (hl : xs.length < 1000000) (x : Act5) (hx : ∀ j u, x.cs[j]? = some u → V.cell? ⟨ad, j, none⟩ = some u) :
    ∃ g' cap' W', (Builtin.append_ #[26, 26] 26 #[v, .slice (some ⟨ad, 0, none⟩) 1 1]).run Try.prog V =
      .ok (.slice (some ⟨g', 0, none⟩) (xs.length + 1) cap') W' ∧ W'.ownsRow B 40 5 (.slice (some ⟨g', 0, none⟩) (xs.length + 1) cap') (xs ++ [x]).length (flatA (xs ++ [x])) ∧ V.grownBy W' v.ownBlock := by
  have hinfo : (Try.prog.info? 40).map (fun i => (i.zero, i.size, i.bytes)) = some (some (.agg #[.string ⟨#[]⟩, .int .i64 0, .int .i64 0, .int .i64 0, .int .i64 0]), 5, 48) := by kernel_rfl
  obtain ⟨i0, hi, hz0, hz1, hz2⟩ := info_parts hinfo
  obtain ⟨v', W', hrun, hown', hgr, hnil⟩ := run_append_own (P := Try.prog) V B 26 26 40 i0 _ 5 48
    Try.underlying26 hi hz0 hz1 hz2 rfl (by omega) v xs.length (flatA xs) h ⟨ad, 0, none⟩ 1 1 x.cs.toList rfl
    (fun j u hj => by
      have e : (⟨ad, 0, none⟩ : Addr).add j = ⟨ad, j, none⟩ := by unfold Addr.add; split <;> simp_all
      rw [e]
      exact hx j u (by simpa using hj)) (by simp [Act5.cs, Value.oneCell']) (by unfold maxLen; omega) (by omega) (by omega)
  have hflat : flatA xs ++ x.cs.toList = flatA (xs ++ [x]) := by rw [flatA_append]; rfl
  rw [hflat] at hown'
  have hlen : xs.length + 1 = (xs ++ [x]).length := by simp
  rcases hown'.2 with ⟨_, h0⟩ | ⟨g', cap', cur', rfl, hb', hg', hle', hmx', hs', ht'⟩
  · omega
  · refine ⟨g', cap', W', hrun, ?_, hgr⟩
    rw [← hlen]
    exact hown'

theorem results_of {fn : Func} {p : Tmp} (h : fn.results = #[.cell p 28]) (tmps : Array Value) (w : World) (g : Nat) (x y z : Value) (fr : Nat × Nat)
    (hp : tmps.getD p undef = .pointer (some ⟨g, 0, none⟩)) (hg : w.heap[g]? = some (.cells #[x, y, z] 28 fr)) :
    (results fn tmps).run Try.prog w = .ok (.agg #[x, y, z]) w := by
  have hp' : tmps[p]?.getD undef = .pointer (some ⟨g, 0, none⟩) := by simpa using hp
  have hl := run_loadVar_row (P := Try.prog) w g 28 28 #[x, y, z] fr _ hg Try.underlying28 rfl (by kernel_rfl)
  simp [results, h, hp', asAddr, hl]

/-- the memory, while a round's append is drawn -/
structure PMof (W : World) (b3 B : Nat) (vG : Value) (secs : Int) (xs : List Act5) (y : Act5) (listed : Array Bool) (s30 s31 : Value) (V : World) : Prop where
  off : Off (fun q => q = b3 ∨ isRowT 40 W B q) W V
  pre : ¬ flag listed 16 → Below W.heap.size W V
  buf : flag listed 15 → ¬ flag listed 16 → ∃ g, s30 = .slice (some ⟨g, 0, none⟩) 1 1 ∧ ∀ j u, y.cs[j]? = some u → V.cell? ⟨g, j, none⟩ = some u
  app : flag listed 16 → (∃ g' cap', s31 = .slice (some ⟨g', 0, none⟩) (xs.length + 1) cap') ∧ V.ownsRow B 40 5 s31 (xs.length + 1) (flatA (xs ++ [y]))
  b0 : ¬ flag listed 18 → V.heap[b3]? = W.heap[b3]?
  b1 : flag listed 18 → V.heap[b3]? = some (.cells #[vG, .int .i64 secs, s31] 28 (0, 0))
theorem PMof.quiet {W : World} {b3 B : Nat} {vG : Value} {secs : Int} {xs : List Act5} {y : Act5} {listed : Array Bool} {s30 s31 : Value} {V : World} (h : PMof W b3 B vG secs xs y listed s30 s31 V) {k : Nat} (h15 : k ≠ 15) (h16 : k ≠ 16) (h18 : k ≠ 18) :
    PMof W b3 B vG secs xs y (listed.setIfInBounds k true) s30 s31 V := by
  have hf : ∀ j, j ≠ k → (flag (listed.setIfInBounds k true) j ↔ flag listed j) := fun j hj => ⟨fun hc => (flag_set hc).resolve_left hj, fun hc => getD_set' _ _ _ hc⟩
  refine ⟨h.off, ?_, ?_, ?_, ?_, ?_⟩
  · rw [hf 16 (Ne.symm h16)]; exact h.pre
  · rw [hf 15 (Ne.symm h15), hf 16 (Ne.symm h16)]; exact h.buf
  · rw [hf 16 (Ne.symm h16)]; exact h.app
  · rw [hf 18 (Ne.symm h18)]; exact h.b0
  · rw [hf 18 (Ne.symm h18)]; exact h.b1
theorem PMof.start {W : World} {b3 B : Nat} {vG : Value} {secs : Int} {xs : List Act5} {y : Act5} {listed : Array Bool} {s30 s31 : Value} (hf : ∀ j, ¬ flag listed j) : PMof W b3 B vG secs xs y listed s30 s31 W.drew :=
  ⟨Off.of_below (Below.drew (Below.refl _ _)), fun _ => Below.drew (Below.refl _ _), fun h => absurd h (hf _), fun h => absurd h (hf _), fun _ => rfl, fun h => absurd h (hf _)⟩
theorem PMof.buf15 {W : World} {b3 B : Nat} {vG : Value} {secs : Int} {xs : List Act5} {y : Act5} {listed : Array Bool} {s30 s31 : Value} {V : World} (h : PMof W b3 B vG secs xs y listed s30 s31 V) (h16 : ¬ flag listed 16) (h18 : ¬ flag listed 18) (hb : b3 < W.heap.size) :
    PMof W b3 B vG secs xs y (listed.setIfInBounds 15 true) (.slice (some ⟨V.heap.size, 0, none⟩) 1 1) s31 (V.alloc (.cells y.cs 40)) := by
  have hf : ∀ j, j ≠ 15 → ¬ flag listed j → ¬ flag (listed.setIfInBounds 15 true) j := fun j hj hn hc => hn ((flag_set hc).resolve_left hj)
  have hz := h.off.size
  refine ⟨h.off.trans (Off.of_below (bel1' _ _)), fun _ => (h.pre h16).alloc hz _, fun _ _ => ⟨_, rfl, fun j u hu => ?_⟩, fun hc => absurd hc (hf 16 (by decide) h16), fun _ => ?_, fun hc => absurd hc (hf 18 (by decide) h18)⟩
  · rw [cell_at]; exact hu
  · exact (Below.heap_alloc V _ _ (by omega)).trans (h.b0 h18)
theorem PMof.app16 {W : World} {b3 B : Nat} {vG : Value} {secs : Int} {xs : List Act5} {y : Act5} {listed : Array Bool} {s30 s31' s31 : Value} {V V3 : World} (h : PMof W b3 B vG secs xs y listed s30 s31' V) (hlt : 16 < listed.size) (h18 : ¬ flag listed 18)
    {vc : Value} (hvc : W.ownsRow B 40 5 vc xs.length (flatA xs)) (hb3 : W.heap[b3]? = some (.cells #[vG, .int .i64 secs, vc] 28 (0, 0))) (he : ∃ g' cap', s31 = .slice (some ⟨g', 0, none⟩) (xs.length + 1) cap') (hown : V3.ownsRow B 40 5 s31 (xs ++ [y]).length (flatA (xs ++ [y]))) (hgr : V.grownBy V3 vc.ownBlock) :
    PMof W b3 B vG secs xs y (listed.setIfInBounds 16 true) s30 s31 V3 := by
  have hb := (Array.getElem?_eq_some_iff.1 hb3).1
  have hz := h.off.size
  have hne := ownsRow_type hvc hb3 (by decide)
  have hlen : (xs ++ [y]).length = xs.length + 1 := by simp
  rw [hlen] at hown
  refine ⟨h.off.trans ⟨Below.grown (Below.refl _ _) hgr (Nat.zero_le _) (fun _ _ => Nat.zero_le _), fun k hk hkl => hgr.block k hkl (fun e => hk (.inr ?_))⟩, fun hc => ?_, fun _ hc => ?_, fun _ => ⟨he, hown⟩, fun _ => ?_, fun hc => ?_⟩
  · refine ⟨(hvc.lt k e.symm).1, ?_⟩
    rcases hvc.2 with ⟨h1, _⟩ | ⟨gL, capx, cur, h1, _, hgL, _⟩
    · rw [h1] at e; simp [Value.ownBlock] at e
    · rw [h1] at e
      simp [Value.ownBlock] at e
      subst e
      exact ⟨_, _, hgL⟩
  · exact absurd (flag_self hlt) hc
  · exact absurd (flag_self hlt) hc
  · exact (hgr.block b3 (by omega) (fun e => hne e.symm)).trans (h.b0 h18)
  · exact absurd ((flag_set hc).resolve_left (by decide)) h18
theorem PMof.sto18 {W : World} {b3 B : Nat} {vG : Value} {secs : Int} {xs : List Act5} {y : Act5} {listed : Array Bool} {s30 s31 : Value} {V : World} (h : PMof W b3 B vG secs xs y listed s30 s31 V) (hlt : 18 < listed.size) (h18 : ¬ flag listed 18) (h16 : flag listed 16)
    {vc : Value} (hb3 : W.heap[b3]? = some (.cells #[vG, .int .i64 secs, vc] 28 (0, 0))) : PMof W b3 B vG secs xs y (listed.setIfInBounds 18 true) s30 s31 (V.setCell ⟨b3, 2, none⟩ s31) := by
  have hf : ∀ j, flag listed j → flag (listed.setIfInBounds 18 true) j := fun j hc => getD_set' _ _ _ hc
  have hb := (h.b0 h18).trans hb3
  obtain ⟨he, hown⟩ := h.app h16
  have hne := ownsRow_type hown hb (by decide)
  exact ⟨Off.setCell h.off (p := ⟨b3, 2, none⟩) (.inl rfl) _, fun hc => absurd (hf 16 h16) hc, fun _ hc => absurd (hf 16 h16) hc, fun _ => ⟨he, ownsRow_set hown b3 2 _ hne⟩, fun hc => absurd (flag_self hlt) hc, fun _ => heap_set_cells hb _⟩
/-- between two rounds -/
structure PIof (w : World) (vG : Value) (secs : Int) (vL : Value) (xs : List Act5) (k : Nat) (W : World) : Prop where
  bel : Below w.heap.size w W
  h0 : W.heap[w.heap.size]? = some (.cells #[vG, .int .i64 secs, vL] 47 (0, 0))
  h1 : W.heap[w.heap.size + 1]? = some (.cells #[.slice none 0 0, .int .i64 0, .slice none 0 0] 28 (0, 0))
  h2 : ∃ vc, W.heap[w.heap.size + 1 + 1]? = some (.cells #[vG, .int .i64 secs, vc] 28 (0, 0)) ∧ W.ownsRow (w.heap.size + 3) 40 5 vc (xs.take k).length (flatA (xs.take k))

set_option maxRecDepth 20000 in
set_option maxHeartbeats 4000000 in
theorem of_at (w : World) (adG : Option Addr) (ng capG : Nat) (vL : Value) (secs : Int) (xs : List Act5) (n : Nat) (hL : Rd w 5 n vL (flatA xs)) (hn : n < 1000000) :
    Calls Try.prog 18 #[.agg #[.slice adG ng capG, .int .i64 secs, vL]] w fun e W' => ∃ vL', e = .returned (.agg #[.slice adG ng capG, .int .i64 secs, vL']) ∧ W'.ownsRow w.heap.size 40 5 vL' n (flatA xs) ∧ Below w.heap.size w W' := by
  obtain ⟨ad, blk, off, cap, rfl, hL⟩ := hL
  have hnx := flatA_n hL.len
  have HN := Lib.hid hnx
  clear hnx
  go_enter Try.func18, Try.ntmps18
  go_wp2_with fail
  have hI0 : PIof w (.slice adG ng capG) secs (.slice ad n cap) xs 0 (((w.alloc (.cells #[.slice adG ng capG, .int .i64 secs, .slice ad n cap] 47)).alloc (.cells #[.slice none 0 0, .int .i64 0, .slice none 0 0] 28)).alloc (.cells #[.slice adG ng capG, .int .i64 secs, .slice none 0 0] 28)) := by
    have hh := heap_at w [.cells #[.slice adG ng capG, .int .i64 secs, .slice ad n cap] 47, .cells #[.slice none 0 0, .int .i64 0, .slice none 0 0] 28, .cells #[.slice adG ng capG, .int .i64 secs, .slice none 0 0] 28]
    exact ⟨by (repeat' (first | (with_reducible exact Below.refl _ _) | (with_reducible refine belowGrU ?_ _) | (with_reducible refine belowAlloc ?_ _) | (with_reducible refine Below.setCell ?_ ?_ _) | (with_reducible refine Below.drew ?_) | (simp [go_sem]; done) | (simp [go_sem]; omega))), hh 0, hh 1, _, hh 2, World.ownsRow_nil _ _ _ _⟩
  go_loopw [4] (fun i wr => ∃ k : Nat, k ≤ n ∧ i = .int .i64 (k : Int) ∧ PIof w (.slice adG ng capG) secs (.slice ad n cap) xs k wr) (fun i _ => n - (intOf i).toNat)
  case atStart => exact ⟨0, by omega, rfl, hI0⟩
  case round =>
    obtain ⟨k, hk, rfl, hP⟩ := hrel
    obtain ⟨vc, hb3, hvc⟩ := hP.h2
    obtain ⟨adc, capc, rfl⟩ := ownsRow_len hvc
    have hb3l := (Array.getElem?_eq_some_iff.1 hb3).1
    have hw0 : w.heap.size < wr.heap.size := by omega
    haveI : Old w.heap.size wr := ⟨hw0⟩
    haveI : Old (w.heap.size + 1) wr := ⟨by omega⟩
    haveI : Old (w.heap.size + 1 + 1) wr := ⟨hb3l⟩
    have c2 : wr.cell? ⟨w.heap.size, 2, none⟩ = some (.slice ad n cap) := by rw [cell_of_row wr _ 2 _ _ _ hP.h0]; rfl
    have hLk := hL.keep (W' := wr) hP.bel.size (fun hl => hP.bel.block _ hl)
    by_cases hlt : k < n
    · have hnx := HN.out
      have hblw := hL.lt (by omega)
      obtain ⟨d0, d1, d2, d3, d4⟩ := hLk.act (k := k) (by omega)
      have htk : (xs.take k).length < 1000000 := by rw [List.length_take]; omega
      have htk2 : (xs.take k).length = k := by rw [List.length_take]; omega
      have hadr := hL.addr (by omega)
      subst hadr
      have hix : ∀ W : World, (Instr.indexAt 45 (.slice (some ⟨blk, off, none⟩) n cap) (.int .i64 (k : Int))).run Try.prog W = .ok (.pointer (some ⟨blk, off + k * 5, none⟩)) W := fun W => by
        simp [go_sem, hlt]
      have htake : xs.take (k + 1) = xs.take k ++ [xs[k]'(by omega)] := List.take_succ_eq_append_getElem (by omega)
      obtain ⟨⟨y0, y1, y2, y3, y4⟩, hy⟩ : ∃ y, xs[k]'(by omega) = y := ⟨_, rfl⟩
      rw [hy] at htake d0 d1 d2 d3 d4
      simp only at d0 d1 d2 d3 d4
      rw [htk2] at hvc
      have hvc' : wr.ownsRow (w.heap.size + 3) 40 5 (.slice adc k capc) (xs.take k).length (flatA (xs.take k)) := by rw [htk2]; exact hvc
      obtain ⟨zs, hzs⟩ : ∃ zs, xs.take k = zs := ⟨_, rfl⟩
      rw [hzs] at htake htk2 hvc' htk hvc hb3
      have HTAKE := Lib.hid htake
      have HKL := Lib.hid htk2
      obtain ⟨vc, hvceq⟩ : ∃ vc, Value.slice adc k capc = vc := ⟨_, rfl⟩
      rw [htk2] at hb3
      rw [hvceq] at hvc' hb3
      have c3 : wr.cell? ⟨w.heap.size + 1 + 1, 2, none⟩ = some vc := by rw [cell_of_row wr _ 2 _ _ _ hb3]; rfl
      have hx0 : ¬ (w.heap.size = w.heap.size + 1 + 1 ∨ isRowT 40 wr (w.heap.size + 3) w.heap.size) := by rintro (e | e); omega; have := e.1; omega
      have hxb : ¬ (blk = w.heap.size + 1 + 1 ∨ isRowT 40 wr (w.heap.size + 3) blk) := by rintro (e | e); omega; have := e.1; omega
      have hbl : blk < wr.heap.size := by omega
      have hBw : w.heap.size + 3 ≤ wr.heap.size := by omega
      clear hy htake hvc hLk hnx hI0 htk2 hzs
      go_wp2_with fail
      refine (wpIn_wide (n := 3)).1 ?_
      refine wpIn_region_rel2 (fun a0 listed a V => ∃ s15 s16 s17 s18 s19 s20 s21 s22 s23 s24 s25 s26 s27 s28 s29 s30 s31 s32 : Value, a = ((((((((((((((((((a0.put (some 15) s15).put (some 16) s16).put (some 17) s17).put (some 18) s18).put (some 19) s19).put (some 20) s20).put (some 21) s21).put (some 22) s22).put (some 23) s23).put (some 24) s24).put (some 25) s25).put (some 26) s26).put (some 27) s27).put (some 28) s28).put (some 29) s29).put (some 30) s30).put (some 31) s31).put (some 32) s32) ∧ (flag listed 0 → s15 = .pointer (some ⟨w.heap.size + 1 + 1, 2, none⟩)) ∧ (flag listed 1 → s16 = vc) ∧ (flag listed 2 → s17 = .pointer (some ⟨w.heap.size, 2, none⟩)) ∧ (flag listed 3 → s18 = .slice (some ⟨blk, off, none⟩) n cap) ∧ (flag listed 4 → s19 = .int .i64 (k : Int)) ∧ (flag listed 5 → s20 = .pointer (some ⟨blk, off + k * 5, none⟩)) ∧ (flag listed 6 → s21 = .pointer (some ⟨blk, off + k * 5, none⟩)) ∧ (flag listed 7 → s22 = .string y0) ∧ (flag listed 8 → s23 = .pointer (some ⟨w.heap.size, 2, none⟩)) ∧ (flag listed 9 → s24 = .slice (some ⟨blk, off, none⟩) n cap) ∧ (flag listed 10 → s25 = .int .i64 (k : Int)) ∧ (flag listed 11 → s26 = .pointer (some ⟨blk, off + k * 5, none⟩)) ∧ (flag listed 12 → s27 = .pointer (some ⟨blk, off + k * 5 + 1, none⟩)) ∧ (flag listed 13 → s28 = .agg #[.int .i64 y1, .int .i64 y2, .int .i64 y3, .int .i64 y4]) ∧ (flag listed 14 → s29 = .agg #[.string y0, .int .i64 y1, .int .i64 y2, .int .i64 y3, .int .i64 y4]) ∧ (flag listed 17 → s32 = .pointer (some ⟨w.heap.size + 1 + 1, 2, none⟩)) ∧ PMof wr (w.heap.size + 1 + 1) (w.heap.size + 3) (.slice adG ng capG) secs zs ⟨y0, y1, y2, y3, y4⟩ listed s30 s31 V) (by kernel_rfl) (by kernel_rfl) ?_ ⟨?_, ?_, ?_, ?_, ?_, ?_, ?_, ?_, ?_, ?_, ?_, ?_, ?_, ?_, ?_, ?_, ?_, ?_, ?_, trivial⟩ ?_
      · intro listed h
        have hf : ∀ j, ¬ flag listed j := fun j hc => by unfold flag at hc; rw [h] at hc; cases hc
        exact startP _ (fun s15 s16 s17 s18 s19 s20 s21 s22 s23 s24 s25 s26 s27 s28 s29 s30 s31 s32 => ⟨fun hc => absurd hc (hf 0), fun hc => absurd hc (hf 1), fun hc => absurd hc (hf 2), fun hc => absurd hc (hf 3), fun hc => absurd hc (hf 4), fun hc => absurd hc (hf 5), fun hc => absurd hc (hf 6), fun hc => absurd hc (hf 7), fun hc => absurd hc (hf 8), fun hc => absurd hc (hf 9), fun hc => absurd hc (hf 10), fun hc => absurd hc (hf 11), fun hc => absurd hc (hf 12), fun hc => absurd hc (hf 13), fun hc => absurd hc (hf 14), fun hc => absurd hc (hf 17), PMof.start hf⟩)
      · rintro listed a V ⟨s15, s16, s17, s18, s19, s20, s21, s22, s23, s24, s25, s26, s27, s28, s29, s30, s31, s32, rfl, e0, e1, e2, e3, e4, e5, e6, e7, e8, e9, e10, e11, e12, e13, e14, e17, hM⟩ hlt hd hu hcl
        clear hcl hu
        gi_wp2_with fail
        exact ⟨rfl, _, _, _, _, _, _, _, _, _, _, _, _, _, _, _, _, _, _, rfl, fun _ => rfl, fun hc => e1 ((flag_set hc).resolve_left (by decide)), fun hc => e2 ((flag_set hc).resolve_left (by decide)), fun hc => e3 ((flag_set hc).resolve_left (by decide)), fun hc => e4 ((flag_set hc).resolve_left (by decide)), fun hc => e5 ((flag_set hc).resolve_left (by decide)), fun hc => e6 ((flag_set hc).resolve_left (by decide)), fun hc => e7 ((flag_set hc).resolve_left (by decide)), fun hc => e8 ((flag_set hc).resolve_left (by decide)), fun hc => e9 ((flag_set hc).resolve_left (by decide)), fun hc => e10 ((flag_set hc).resolve_left (by decide)), fun hc => e11 ((flag_set hc).resolve_left (by decide)), fun hc => e12 ((flag_set hc).resolve_left (by decide)), fun hc => e13 ((flag_set hc).resolve_left (by decide)), fun hc => e14 ((flag_set hc).resolve_left (by decide)), fun hc => e17 ((flag_set hc).resolve_left (by decide)), hM.quiet (by decide) (by decide) (by decide)⟩
      · rintro listed a V ⟨s15, s16, s17, s18, s19, s20, s21, s22, s23, s24, s25, s26, s27, s28, s29, s30, s31, s32, rfl, e0, e1, e2, e3, e4, e5, e6, e7, e8, e9, e10, e11, e12, e13, e14, e17, hM⟩ hlt hd hu hcl
        obtain rfl := e0 (hd 0 (by decide))
        have h18 : ¬ flag listed 18 := fun hc => by have := hcl 18 1 hc (by decide); rw [hu] at this; cases this
        have cV : V.cell? ⟨w.heap.size + 1 + 1, 2, none⟩ = some vc := (World.cell?_of_block (hM.b0 h18)).trans c3
        clear h18
        clear hcl hu
        gi_wp2_with fail
        exact ⟨rfl, _, _, _, _, _, _, _, _, _, _, _, _, _, _, _, _, _, _, rfl, fun _ => rfl, fun _ => rfl, fun hc => e2 ((flag_set hc).resolve_left (by decide)), fun hc => e3 ((flag_set hc).resolve_left (by decide)), fun hc => e4 ((flag_set hc).resolve_left (by decide)), fun hc => e5 ((flag_set hc).resolve_left (by decide)), fun hc => e6 ((flag_set hc).resolve_left (by decide)), fun hc => e7 ((flag_set hc).resolve_left (by decide)), fun hc => e8 ((flag_set hc).resolve_left (by decide)), fun hc => e9 ((flag_set hc).resolve_left (by decide)), fun hc => e10 ((flag_set hc).resolve_left (by decide)), fun hc => e11 ((flag_set hc).resolve_left (by decide)), fun hc => e12 ((flag_set hc).resolve_left (by decide)), fun hc => e13 ((flag_set hc).resolve_left (by decide)), fun hc => e14 ((flag_set hc).resolve_left (by decide)), fun hc => e17 ((flag_set hc).resolve_left (by decide)), hM.quiet (by decide) (by decide) (by decide)⟩
      · rintro listed a V ⟨s15, s16, s17, s18, s19, s20, s21, s22, s23, s24, s25, s26, s27, s28, s29, s30, s31, s32, rfl, e0, e1, e2, e3, e4, e5, e6, e7, e8, e9, e10, e11, e12, e13, e14, e17, hM⟩ hlt hd hu hcl
        clear hcl hu
        gi_wp2_with fail
        exact ⟨rfl, _, _, _, _, _, _, _, _, _, _, _, _, _, _, _, _, _, _, rfl, fun hc => e0 ((flag_set hc).resolve_left (by decide)), fun hc => e1 ((flag_set hc).resolve_left (by decide)), fun _ => rfl, fun hc => e3 ((flag_set hc).resolve_left (by decide)), fun hc => e4 ((flag_set hc).resolve_left (by decide)), fun hc => e5 ((flag_set hc).resolve_left (by decide)), fun hc => e6 ((flag_set hc).resolve_left (by decide)), fun hc => e7 ((flag_set hc).resolve_left (by decide)), fun hc => e8 ((flag_set hc).resolve_left (by decide)), fun hc => e9 ((flag_set hc).resolve_left (by decide)), fun hc => e10 ((flag_set hc).resolve_left (by decide)), fun hc => e11 ((flag_set hc).resolve_left (by decide)), fun hc => e12 ((flag_set hc).resolve_left (by decide)), fun hc => e13 ((flag_set hc).resolve_left (by decide)), fun hc => e14 ((flag_set hc).resolve_left (by decide)), fun hc => e17 ((flag_set hc).resolve_left (by decide)), hM.quiet (by decide) (by decide) (by decide)⟩
      · rintro listed a V ⟨s15, s16, s17, s18, s19, s20, s21, s22, s23, s24, s25, s26, s27, s28, s29, s30, s31, s32, rfl, e0, e1, e2, e3, e4, e5, e6, e7, e8, e9, e10, e11, e12, e13, e14, e17, hM⟩ hlt hd hu hcl
        obtain rfl := e2 (hd 2 (by decide))
        have hoff := hM.off
        have cL : V.cell? ⟨w.heap.size, 2, none⟩ = some (.slice (some ⟨blk, off, none⟩) n cap) := (hoff.cell (p := ⟨w.heap.size, 2, none⟩) hx0 hw0).trans c2
        clear hoff
        clear hcl hu
        gi_wp2_with fail
        exact ⟨rfl, _, _, _, _, _, _, _, _, _, _, _, _, _, _, _, _, _, _, rfl, fun hc => e0 ((flag_set hc).resolve_left (by decide)), fun hc => e1 ((flag_set hc).resolve_left (by decide)), fun _ => rfl, fun _ => rfl, fun hc => e4 ((flag_set hc).resolve_left (by decide)), fun hc => e5 ((flag_set hc).resolve_left (by decide)), fun hc => e6 ((flag_set hc).resolve_left (by decide)), fun hc => e7 ((flag_set hc).resolve_left (by decide)), fun hc => e8 ((flag_set hc).resolve_left (by decide)), fun hc => e9 ((flag_set hc).resolve_left (by decide)), fun hc => e10 ((flag_set hc).resolve_left (by decide)), fun hc => e11 ((flag_set hc).resolve_left (by decide)), fun hc => e12 ((flag_set hc).resolve_left (by decide)), fun hc => e13 ((flag_set hc).resolve_left (by decide)), fun hc => e14 ((flag_set hc).resolve_left (by decide)), fun hc => e17 ((flag_set hc).resolve_left (by decide)), hM.quiet (by decide) (by decide) (by decide)⟩
      · rintro listed a V ⟨s15, s16, s17, s18, s19, s20, s21, s22, s23, s24, s25, s26, s27, s28, s29, s30, s31, s32, rfl, e0, e1, e2, e3, e4, e5, e6, e7, e8, e9, e10, e11, e12, e13, e14, e17, hM⟩ hlt hd hu hcl
        clear hcl hu
        gi_wp2_with fail
        exact ⟨rfl, _, _, _, _, _, _, _, _, _, _, _, _, _, _, _, _, _, _, rfl, fun hc => e0 ((flag_set hc).resolve_left (by decide)), fun hc => e1 ((flag_set hc).resolve_left (by decide)), fun hc => e2 ((flag_set hc).resolve_left (by decide)), fun hc => e3 ((flag_set hc).resolve_left (by decide)), fun _ => rfl, fun hc => e5 ((flag_set hc).resolve_left (by decide)), fun hc => e6 ((flag_set hc).resolve_left (by decide)), fun hc => e7 ((flag_set hc).resolve_left (by decide)), fun hc => e8 ((flag_set hc).resolve_left (by decide)), fun hc => e9 ((flag_set hc).resolve_left (by decide)), fun hc => e10 ((flag_set hc).resolve_left (by decide)), fun hc => e11 ((flag_set hc).resolve_left (by decide)), fun hc => e12 ((flag_set hc).resolve_left (by decide)), fun hc => e13 ((flag_set hc).resolve_left (by decide)), fun hc => e14 ((flag_set hc).resolve_left (by decide)), fun hc => e17 ((flag_set hc).resolve_left (by decide)), hM.quiet (by decide) (by decide) (by decide)⟩
      · rintro listed a V ⟨s15, s16, s17, s18, s19, s20, s21, s22, s23, s24, s25, s26, s27, s28, s29, s30, s31, s32, rfl, e0, e1, e2, e3, e4, e5, e6, e7, e8, e9, e10, e11, e12, e13, e14, e17, hM⟩ hlt hd hu hcl
        obtain rfl := e3 (hd 3 (by decide))
        obtain rfl := e4 (hd 4 (by decide))
        clear hcl hu
        gi_wp2_with fail
        exact ⟨rfl, _, _, _, _, _, _, _, _, _, _, _, _, _, _, _, _, _, _, rfl, fun hc => e0 ((flag_set hc).resolve_left (by decide)), fun hc => e1 ((flag_set hc).resolve_left (by decide)), fun hc => e2 ((flag_set hc).resolve_left (by decide)), fun _ => rfl, fun _ => rfl, fun _ => rfl, fun hc => e6 ((flag_set hc).resolve_left (by decide)), fun hc => e7 ((flag_set hc).resolve_left (by decide)), fun hc => e8 ((flag_set hc).resolve_left (by decide)), fun hc => e9 ((flag_set hc).resolve_left (by decide)), fun hc => e10 ((flag_set hc).resolve_left (by decide)), fun hc => e11 ((flag_set hc).resolve_left (by decide)), fun hc => e12 ((flag_set hc).resolve_left (by decide)), fun hc => e13 ((flag_set hc).resolve_left (by decide)), fun hc => e14 ((flag_set hc).resolve_left (by decide)), fun hc => e17 ((flag_set hc).resolve_left (by decide)), hM.quiet (by decide) (by decide) (by decide)⟩
      · rintro listed a V ⟨s15, s16, s17, s18, s19, s20, s21, s22, s23, s24, s25, s26, s27, s28, s29, s30, s31, s32, rfl, e0, e1, e2, e3, e4, e5, e6, e7, e8, e9, e10, e11, e12, e13, e14, e17, hM⟩ hlt hd hu hcl
        obtain rfl := e5 (hd 5 (by decide))
        clear hcl hu
        gi_wp2_with fail
        exact ⟨rfl, _, _, _, _, _, _, _, _, _, _, _, _, _, _, _, _, _, _, rfl, fun hc => e0 ((flag_set hc).resolve_left (by decide)), fun hc => e1 ((flag_set hc).resolve_left (by decide)), fun hc => e2 ((flag_set hc).resolve_left (by decide)), fun hc => e3 ((flag_set hc).resolve_left (by decide)), fun hc => e4 ((flag_set hc).resolve_left (by decide)), fun _ => rfl, fun _ => rfl, fun hc => e7 ((flag_set hc).resolve_left (by decide)), fun hc => e8 ((flag_set hc).resolve_left (by decide)), fun hc => e9 ((flag_set hc).resolve_left (by decide)), fun hc => e10 ((flag_set hc).resolve_left (by decide)), fun hc => e11 ((flag_set hc).resolve_left (by decide)), fun hc => e12 ((flag_set hc).resolve_left (by decide)), fun hc => e13 ((flag_set hc).resolve_left (by decide)), fun hc => e14 ((flag_set hc).resolve_left (by decide)), fun hc => e17 ((flag_set hc).resolve_left (by decide)), hM.quiet (by decide) (by decide) (by decide)⟩
      · rintro listed a V ⟨s15, s16, s17, s18, s19, s20, s21, s22, s23, s24, s25, s26, s27, s28, s29, s30, s31, s32, rfl, e0, e1, e2, e3, e4, e5, e6, e7, e8, e9, e10, e11, e12, e13, e14, e17, hM⟩ hlt hd hu hcl
        obtain rfl := e6 (hd 6 (by decide))
        have hoff := hM.off
        have d0' := (hoff.cell (p := ⟨blk, off + k * 5, none⟩) hxb hbl).trans d0
        have d1' := (hoff.cell (p := ⟨blk, off + k * 5 + 1, none⟩) hxb hbl).trans d1
        have d2' := (hoff.cell (p := ⟨blk, off + k * 5 + 2, none⟩) hxb hbl).trans d2
        have d3' := (hoff.cell (p := ⟨blk, off + k * 5 + 3, none⟩) hxb hbl).trans d3
        have d4' := (hoff.cell (p := ⟨blk, off + k * 5 + 4, none⟩) hxb hbl).trans d4
        clear hoff
        clear hcl hu
        gi_wp2_with fail
        exact ⟨rfl, _, _, _, _, _, _, _, _, _, _, _, _, _, _, _, _, _, _, rfl, fun hc => e0 ((flag_set hc).resolve_left (by decide)), fun hc => e1 ((flag_set hc).resolve_left (by decide)), fun hc => e2 ((flag_set hc).resolve_left (by decide)), fun hc => e3 ((flag_set hc).resolve_left (by decide)), fun hc => e4 ((flag_set hc).resolve_left (by decide)), fun hc => e5 ((flag_set hc).resolve_left (by decide)), fun _ => rfl, fun _ => rfl, fun hc => e8 ((flag_set hc).resolve_left (by decide)), fun hc => e9 ((flag_set hc).resolve_left (by decide)), fun hc => e10 ((flag_set hc).resolve_left (by decide)), fun hc => e11 ((flag_set hc).resolve_left (by decide)), fun hc => e12 ((flag_set hc).resolve_left (by decide)), fun hc => e13 ((flag_set hc).resolve_left (by decide)), fun hc => e14 ((flag_set hc).resolve_left (by decide)), fun hc => e17 ((flag_set hc).resolve_left (by decide)), hM.quiet (by decide) (by decide) (by decide)⟩
      · rintro listed a V ⟨s15, s16, s17, s18, s19, s20, s21, s22, s23, s24, s25, s26, s27, s28, s29, s30, s31, s32, rfl, e0, e1, e2, e3, e4, e5, e6, e7, e8, e9, e10, e11, e12, e13, e14, e17, hM⟩ hlt hd hu hcl
        clear hcl hu
        gi_wp2_with fail
        exact ⟨rfl, _, _, _, _, _, _, _, _, _, _, _, _, _, _, _, _, _, _, rfl, fun hc => e0 ((flag_set hc).resolve_left (by decide)), fun hc => e1 ((flag_set hc).resolve_left (by decide)), fun hc => e2 ((flag_set hc).resolve_left (by decide)), fun hc => e3 ((flag_set hc).resolve_left (by decide)), fun hc => e4 ((flag_set hc).resolve_left (by decide)), fun hc => e5 ((flag_set hc).resolve_left (by decide)), fun hc => e6 ((flag_set hc).resolve_left (by decide)), fun hc => e7 ((flag_set hc).resolve_left (by decide)), fun _ => rfl, fun hc => e9 ((flag_set hc).resolve_left (by decide)), fun hc => e10 ((flag_set hc).resolve_left (by decide)), fun hc => e11 ((flag_set hc).resolve_left (by decide)), fun hc => e12 ((flag_set hc).resolve_left (by decide)), fun hc => e13 ((flag_set hc).resolve_left (by decide)), fun hc => e14 ((flag_set hc).resolve_left (by decide)), fun hc => e17 ((flag_set hc).resolve_left (by decide)), hM.quiet (by decide) (by decide) (by decide)⟩
      · rintro listed a V ⟨s15, s16, s17, s18, s19, s20, s21, s22, s23, s24, s25, s26, s27, s28, s29, s30, s31, s32, rfl, e0, e1, e2, e3, e4, e5, e6, e7, e8, e9, e10, e11, e12, e13, e14, e17, hM⟩ hlt hd hu hcl
        obtain rfl := e8 (hd 8 (by decide))
        have hoff := hM.off
        have cL : V.cell? ⟨w.heap.size, 2, none⟩ = some (.slice (some ⟨blk, off, none⟩) n cap) := (hoff.cell (p := ⟨w.heap.size, 2, none⟩) hx0 hw0).trans c2
        clear hoff
        clear hcl hu
        gi_wp2_with fail
        exact ⟨rfl, _, _, _, _, _, _, _, _, _, _, _, _, _, _, _, _, _, _, rfl, fun hc => e0 ((flag_set hc).resolve_left (by decide)), fun hc => e1 ((flag_set hc).resolve_left (by decide)), fun hc => e2 ((flag_set hc).resolve_left (by decide)), fun hc => e3 ((flag_set hc).resolve_left (by decide)), fun hc => e4 ((flag_set hc).resolve_left (by decide)), fun hc => e5 ((flag_set hc).resolve_left (by decide)), fun hc => e6 ((flag_set hc).resolve_left (by decide)), fun hc => e7 ((flag_set hc).resolve_left (by decide)), fun _ => rfl, fun _ => rfl, fun hc => e10 ((flag_set hc).resolve_left (by decide)), fun hc => e11 ((flag_set hc).resolve_left (by decide)), fun hc => e12 ((flag_set hc).resolve_left (by decide)), fun hc => e13 ((flag_set hc).resolve_left (by decide)), fun hc => e14 ((flag_set hc).resolve_left (by decide)), fun hc => e17 ((flag_set hc).resolve_left (by decide)), hM.quiet (by decide) (by decide) (by decide)⟩
      · rintro listed a V ⟨s15, s16, s17, s18, s19, s20, s21, s22, s23, s24, s25, s26, s27, s28, s29, s30, s31, s32, rfl, e0, e1, e2, e3, e4, e5, e6, e7, e8, e9, e10, e11, e12, e13, e14, e17, hM⟩ hlt hd hu hcl
        clear hcl hu
        gi_wp2_with fail
        exact ⟨rfl, _, _, _, _, _, _, _, _, _, _, _, _, _, _, _, _, _, _, rfl, fun hc => e0 ((flag_set hc).resolve_left (by decide)), fun hc => e1 ((flag_set hc).resolve_left (by decide)), fun hc => e2 ((flag_set hc).resolve_left (by decide)), fun hc => e3 ((flag_set hc).resolve_left (by decide)), fun hc => e4 ((flag_set hc).resolve_left (by decide)), fun hc => e5 ((flag_set hc).resolve_left (by decide)), fun hc => e6 ((flag_set hc).resolve_left (by decide)), fun hc => e7 ((flag_set hc).resolve_left (by decide)), fun hc => e8 ((flag_set hc).resolve_left (by decide)), fun hc => e9 ((flag_set hc).resolve_left (by decide)), fun _ => rfl, fun hc => e11 ((flag_set hc).resolve_left (by decide)), fun hc => e12 ((flag_set hc).resolve_left (by decide)), fun hc => e13 ((flag_set hc).resolve_left (by decide)), fun hc => e14 ((flag_set hc).resolve_left (by decide)), fun hc => e17 ((flag_set hc).resolve_left (by decide)), hM.quiet (by decide) (by decide) (by decide)⟩
      · rintro listed a V ⟨s15, s16, s17, s18, s19, s20, s21, s22, s23, s24, s25, s26, s27, s28, s29, s30, s31, s32, rfl, e0, e1, e2, e3, e4, e5, e6, e7, e8, e9, e10, e11, e12, e13, e14, e17, hM⟩ hlt hd hu hcl
        obtain rfl := e9 (hd 9 (by decide))
        obtain rfl := e10 (hd 10 (by decide))
        clear hcl hu
        gi_wp2_with fail
        exact ⟨rfl, _, _, _, _, _, _, _, _, _, _, _, _, _, _, _, _, _, _, rfl, fun hc => e0 ((flag_set hc).resolve_left (by decide)), fun hc => e1 ((flag_set hc).resolve_left (by decide)), fun hc => e2 ((flag_set hc).resolve_left (by decide)), fun hc => e3 ((flag_set hc).resolve_left (by decide)), fun hc => e4 ((flag_set hc).resolve_left (by decide)), fun hc => e5 ((flag_set hc).resolve_left (by decide)), fun hc => e6 ((flag_set hc).resolve_left (by decide)), fun hc => e7 ((flag_set hc).resolve_left (by decide)), fun hc => e8 ((flag_set hc).resolve_left (by decide)), fun _ => rfl, fun _ => rfl, fun _ => rfl, fun hc => e12 ((flag_set hc).resolve_left (by decide)), fun hc => e13 ((flag_set hc).resolve_left (by decide)), fun hc => e14 ((flag_set hc).resolve_left (by decide)), fun hc => e17 ((flag_set hc).resolve_left (by decide)), hM.quiet (by decide) (by decide) (by decide)⟩
      · rintro listed a V ⟨s15, s16, s17, s18, s19, s20, s21, s22, s23, s24, s25, s26, s27, s28, s29, s30, s31, s32, rfl, e0, e1, e2, e3, e4, e5, e6, e7, e8, e9, e10, e11, e12, e13, e14, e17, hM⟩ hlt hd hu hcl
        obtain rfl := e11 (hd 11 (by decide))
        clear hcl hu
        gi_wp2_with fail
        exact ⟨rfl, _, _, _, _, _, _, _, _, _, _, _, _, _, _, _, _, _, _, rfl, fun hc => e0 ((flag_set hc).resolve_left (by decide)), fun hc => e1 ((flag_set hc).resolve_left (by decide)), fun hc => e2 ((flag_set hc).resolve_left (by decide)), fun hc => e3 ((flag_set hc).resolve_left (by decide)), fun hc => e4 ((flag_set hc).resolve_left (by decide)), fun hc => e5 ((flag_set hc).resolve_left (by decide)), fun hc => e6 ((flag_set hc).resolve_left (by decide)), fun hc => e7 ((flag_set hc).resolve_left (by decide)), fun hc => e8 ((flag_set hc).resolve_left (by decide)), fun hc => e9 ((flag_set hc).resolve_left (by decide)), fun hc => e10 ((flag_set hc).resolve_left (by decide)), fun _ => rfl, fun _ => rfl, fun hc => e13 ((flag_set hc).resolve_left (by decide)), fun hc => e14 ((flag_set hc).resolve_left (by decide)), fun hc => e17 ((flag_set hc).resolve_left (by decide)), hM.quiet (by decide) (by decide) (by decide)⟩
      · rintro listed a V ⟨s15, s16, s17, s18, s19, s20, s21, s22, s23, s24, s25, s26, s27, s28, s29, s30, s31, s32, rfl, e0, e1, e2, e3, e4, e5, e6, e7, e8, e9, e10, e11, e12, e13, e14, e17, hM⟩ hlt hd hu hcl
        obtain rfl := e12 (hd 12 (by decide))
        have hoff := hM.off
        have d0' := (hoff.cell (p := ⟨blk, off + k * 5, none⟩) hxb hbl).trans d0
        have d1' := (hoff.cell (p := ⟨blk, off + k * 5 + 1, none⟩) hxb hbl).trans d1
        have d2' := (hoff.cell (p := ⟨blk, off + k * 5 + 2, none⟩) hxb hbl).trans d2
        have d3' := (hoff.cell (p := ⟨blk, off + k * 5 + 3, none⟩) hxb hbl).trans d3
        have d4' := (hoff.cell (p := ⟨blk, off + k * 5 + 4, none⟩) hxb hbl).trans d4
        clear hoff
        clear hcl hu
        gi_wp2_with fail
        exact ⟨rfl, _, _, _, _, _, _, _, _, _, _, _, _, _, _, _, _, _, _, rfl, fun hc => e0 ((flag_set hc).resolve_left (by decide)), fun hc => e1 ((flag_set hc).resolve_left (by decide)), fun hc => e2 ((flag_set hc).resolve_left (by decide)), fun hc => e3 ((flag_set hc).resolve_left (by decide)), fun hc => e4 ((flag_set hc).resolve_left (by decide)), fun hc => e5 ((flag_set hc).resolve_left (by decide)), fun hc => e6 ((flag_set hc).resolve_left (by decide)), fun hc => e7 ((flag_set hc).resolve_left (by decide)), fun hc => e8 ((flag_set hc).resolve_left (by decide)), fun hc => e9 ((flag_set hc).resolve_left (by decide)), fun hc => e10 ((flag_set hc).resolve_left (by decide)), fun hc => e11 ((flag_set hc).resolve_left (by decide)), fun _ => rfl, fun _ => rfl, fun hc => e14 ((flag_set hc).resolve_left (by decide)), fun hc => e17 ((flag_set hc).resolve_left (by decide)), hM.quiet (by decide) (by decide) (by decide)⟩
      · rintro listed a V ⟨s15, s16, s17, s18, s19, s20, s21, s22, s23, s24, s25, s26, s27, s28, s29, s30, s31, s32, rfl, e0, e1, e2, e3, e4, e5, e6, e7, e8, e9, e10, e11, e12, e13, e14, e17, hM⟩ hlt hd hu hcl
        obtain rfl := e7 (hd 7 (by decide))
        obtain rfl := e13 (hd 13 (by decide))
        clear hcl hu
        gi_wp2_with fail
        exact ⟨rfl, _, _, _, _, _, _, _, _, _, _, _, _, _, _, _, _, _, _, rfl, fun hc => e0 ((flag_set hc).resolve_left (by decide)), fun hc => e1 ((flag_set hc).resolve_left (by decide)), fun hc => e2 ((flag_set hc).resolve_left (by decide)), fun hc => e3 ((flag_set hc).resolve_left (by decide)), fun hc => e4 ((flag_set hc).resolve_left (by decide)), fun hc => e5 ((flag_set hc).resolve_left (by decide)), fun hc => e6 ((flag_set hc).resolve_left (by decide)), fun _ => rfl, fun hc => e8 ((flag_set hc).resolve_left (by decide)), fun hc => e9 ((flag_set hc).resolve_left (by decide)), fun hc => e10 ((flag_set hc).resolve_left (by decide)), fun hc => e11 ((flag_set hc).resolve_left (by decide)), fun hc => e12 ((flag_set hc).resolve_left (by decide)), fun _ => rfl, fun _ => rfl, fun hc => e17 ((flag_set hc).resolve_left (by decide)), hM.quiet (by decide) (by decide) (by decide)⟩
      · rintro listed a V ⟨s15, s16, s17, s18, s19, s20, s21, s22, s23, s24, s25, s26, s27, s28, s29, s30, s31, s32, rfl, e0, e1, e2, e3, e4, e5, e6, e7, e8, e9, e10, e11, e12, e13, e14, e17, hM⟩ hlt hd hu hcl
        obtain rfl := e14 (hd 14 (by decide))
        have h16 : ¬ flag listed 16 := fun hc => by have := hcl 16 15 hc (by decide); rw [hu] at this; cases this
        have h18 : ¬ flag listed 18 := fun hc => by have := hcl 18 15 hc (by decide); rw [hu] at this; cases this
        clear hcl hu
        gi_wp2_with fail
        exact ⟨rfl, _, _, _, _, _, _, _, _, _, _, _, _, _, _, _, _, _, _, rfl, fun hc => e0 ((flag_set hc).resolve_left (by decide)), fun hc => e1 ((flag_set hc).resolve_left (by decide)), fun hc => e2 ((flag_set hc).resolve_left (by decide)), fun hc => e3 ((flag_set hc).resolve_left (by decide)), fun hc => e4 ((flag_set hc).resolve_left (by decide)), fun hc => e5 ((flag_set hc).resolve_left (by decide)), fun hc => e6 ((flag_set hc).resolve_left (by decide)), fun hc => e7 ((flag_set hc).resolve_left (by decide)), fun hc => e8 ((flag_set hc).resolve_left (by decide)), fun hc => e9 ((flag_set hc).resolve_left (by decide)), fun hc => e10 ((flag_set hc).resolve_left (by decide)), fun hc => e11 ((flag_set hc).resolve_left (by decide)), fun hc => e12 ((flag_set hc).resolve_left (by decide)), fun hc => e13 ((flag_set hc).resolve_left (by decide)), fun _ => rfl, fun hc => e17 ((flag_set hc).resolve_left (by decide)), hM.buf15 h16 h18 hb3l⟩
      · rintro listed a V ⟨s15, s16, s17, s18, s19, s20, s21, s22, s23, s24, s25, s26, s27, s28, s29, s30, s31, s32, rfl, e0, e1, e2, e3, e4, e5, e6, e7, e8, e9, e10, e11, e12, e13, e14, e17, hM⟩ hlt hd hu hcl
        obtain rfl := e1 (hd 1 (by decide))
        have h16 : ¬ flag listed 16 := fun hc => by unfold flag at hc; rw [hu] at hc; cases hc
        have h18 : ¬ flag listed 18 := fun hc => by have := hcl 18 16 hc (by decide); rw [hu] at this; cases this
        obtain ⟨gx, hsx, hcx⟩ := hM.buf (hd 15 (by decide)) h16
        subst hsx
        have hbl2 := hM.pre h16
        obtain ⟨g', cap', V3, hrun, hown3, hgr3⟩ := run_appof (ownsRow_off hvc' (fun q hq => hbl2.block q (hvc'.lt q hq).2)) (by have := hbl2.size; omega) htk ⟨y0, y1, y2, y3, y4⟩ hcx
        have HRUN := Lib.hid hrun
        clear hrun hcx
        clear hcl hu
        gi_wp2_with (refine wpListIn_append_run rfl (.tmp 16) (.tmp 30) 26 26 rfl _ _ (by simp [Act.eval, Act.put]) (by simp [Act.eval, Act.put]) HRUN.out ?_)
        exact ⟨rfl, _, _, _, _, _, _, _, _, _, _, _, _, _, _, _, _, _, _, rfl, fun hc => e0 ((flag_set hc).resolve_left (by decide)), fun _ => rfl, fun hc => e2 ((flag_set hc).resolve_left (by decide)), fun hc => e3 ((flag_set hc).resolve_left (by decide)), fun hc => e4 ((flag_set hc).resolve_left (by decide)), fun hc => e5 ((flag_set hc).resolve_left (by decide)), fun hc => e6 ((flag_set hc).resolve_left (by decide)), fun hc => e7 ((flag_set hc).resolve_left (by decide)), fun hc => e8 ((flag_set hc).resolve_left (by decide)), fun hc => e9 ((flag_set hc).resolve_left (by decide)), fun hc => e10 ((flag_set hc).resolve_left (by decide)), fun hc => e11 ((flag_set hc).resolve_left (by decide)), fun hc => e12 ((flag_set hc).resolve_left (by decide)), fun hc => e13 ((flag_set hc).resolve_left (by decide)), fun hc => e14 ((flag_set hc).resolve_left (by decide)), fun hc => e17 ((flag_set hc).resolve_left (by decide)), hM.app16 (s31 := .slice (some ⟨g', 0, none⟩) (zs.length + 1) cap') hlt h18 hvc' hb3 ⟨_, _, rfl⟩ hown3 hgr3⟩
      · rintro listed a V ⟨s15, s16, s17, s18, s19, s20, s21, s22, s23, s24, s25, s26, s27, s28, s29, s30, s31, s32, rfl, e0, e1, e2, e3, e4, e5, e6, e7, e8, e9, e10, e11, e12, e13, e14, e17, hM⟩ hlt hd hu hcl
        clear hcl hu
        gi_wp2_with fail
        exact ⟨rfl, _, _, _, _, _, _, _, _, _, _, _, _, _, _, _, _, _, _, rfl, fun hc => e0 ((flag_set hc).resolve_left (by decide)), fun hc => e1 ((flag_set hc).resolve_left (by decide)), fun hc => e2 ((flag_set hc).resolve_left (by decide)), fun hc => e3 ((flag_set hc).resolve_left (by decide)), fun hc => e4 ((flag_set hc).resolve_left (by decide)), fun hc => e5 ((flag_set hc).resolve_left (by decide)), fun hc => e6 ((flag_set hc).resolve_left (by decide)), fun hc => e7 ((flag_set hc).resolve_left (by decide)), fun hc => e8 ((flag_set hc).resolve_left (by decide)), fun hc => e9 ((flag_set hc).resolve_left (by decide)), fun hc => e10 ((flag_set hc).resolve_left (by decide)), fun hc => e11 ((flag_set hc).resolve_left (by decide)), fun hc => e12 ((flag_set hc).resolve_left (by decide)), fun hc => e13 ((flag_set hc).resolve_left (by decide)), fun hc => e14 ((flag_set hc).resolve_left (by decide)), fun _ => rfl, hM.quiet (by decide) (by decide) (by decide)⟩
      · rintro listed a V ⟨s15, s16, s17, s18, s19, s20, s21, s22, s23, s24, s25, s26, s27, s28, s29, s30, s31, s32, rfl, e0, e1, e2, e3, e4, e5, e6, e7, e8, e9, e10, e11, e12, e13, e14, e17, hM⟩ hlt hd hu hcl
        obtain rfl := e17 (hd 17 (by decide))
        have hown3 := hM.app (hd 16 (by decide))
        have h18 : ¬ flag listed 18 := fun hc => by unfold flag at hc; rw [hu] at hc; cases hc
        obtain ⟨⟨g3, cap3, hs31⟩, hown3⟩ := hown3
        subst hs31
        have hb3V := (hM.b0 h18).trans hb3
        have fV := frozen_of_row hb3V 2
        have cV : V.cell? ⟨w.heap.size + 1 + 1, 2, none⟩ = some vc := by rw [cell_of_row V _ 2 _ _ _ hb3V]; rfl
        clear hcl hu
        gi_wp2_with fail
        exact ⟨rfl, _, _, _, _, _, _, _, _, _, _, _, _, _, _, _, _, _, _, rfl, fun hc => e0 ((flag_set hc).resolve_left (by decide)), fun hc => e1 ((flag_set hc).resolve_left (by decide)), fun hc => e2 ((flag_set hc).resolve_left (by decide)), fun hc => e3 ((flag_set hc).resolve_left (by decide)), fun hc => e4 ((flag_set hc).resolve_left (by decide)), fun hc => e5 ((flag_set hc).resolve_left (by decide)), fun hc => e6 ((flag_set hc).resolve_left (by decide)), fun hc => e7 ((flag_set hc).resolve_left (by decide)), fun hc => e8 ((flag_set hc).resolve_left (by decide)), fun hc => e9 ((flag_set hc).resolve_left (by decide)), fun hc => e10 ((flag_set hc).resolve_left (by decide)), fun hc => e11 ((flag_set hc).resolve_left (by decide)), fun hc => e12 ((flag_set hc).resolve_left (by decide)), fun hc => e13 ((flag_set hc).resolve_left (by decide)), fun hc => e14 ((flag_set hc).resolve_left (by decide)), fun _ => rfl, hM.sto18 hlt h18 (hd 16 (by decide)) hb3⟩
      · rintro listed a V ⟨s15, s16, s17, s18, s19, s20, s21, s22, s23, s24, s25, s26, s27, s28, s29, s30, s31, s32, rfl, e0, e1, e2, e3, e4, e5, e6, e7, e8, e9, e10, e11, e12, e13, e14, e17, hM⟩ hall
        obtain rfl := e0 (hall 0 (by decide))
        obtain rfl := e1 (hall 1 (by decide))
        obtain rfl := e2 (hall 2 (by decide))
        obtain rfl := e3 (hall 3 (by decide))
        obtain rfl := e4 (hall 4 (by decide))
        obtain rfl := e5 (hall 5 (by decide))
        obtain rfl := e6 (hall 6 (by decide))
        obtain rfl := e7 (hall 7 (by decide))
        obtain rfl := e8 (hall 8 (by decide))
        obtain rfl := e9 (hall 9 (by decide))
        obtain rfl := e10 (hall 10 (by decide))
        obtain rfl := e11 (hall 11 (by decide))
        obtain rfl := e12 (hall 12 (by decide))
        obtain rfl := e13 (hall 13 (by decide))
        obtain rfl := e14 (hall 14 (by decide))
        obtain rfl := e17 (hall 17 (by decide))
        have HPM := Lib.hid hM
        have HH := Lib.hid (hall 16 (by decide))
        have HJ := Lib.hid (hall 18 (by decide))
        clear hM
        gi_wp2_with fail
        go_wp2_with fail
        go_roundw
        case rel =>
          refine ⟨k + 1, by omega, by go_num, ?_⟩
          have hM := HPM.out
          obtain ⟨he, hown⟩ := hM.app HH.out
          have hz := hM.off.size
          have hx : ∀ q, q < w.heap.size + 2 → V.heap[q]? = wr.heap[q]? := fun q hq => hM.off.same q (fun e => by rcases e with e | e; omega; have := e.1; omega) (by omega)
          refine ⟨hP.bel.trans ⟨hM.off.base.os, hM.off.base.tape, hM.off.base.output, hz, fun q hq => hx q (by omega)⟩, (hx _ (by omega)).trans hP.h0, (hx _ (by omega)).trans hP.h1, _, hM.b1 HJ.out, ?_⟩
          rw [HTAKE.out, List.length_append]
          exact hown
        case measure => simp [intOf]; omega
    · obtain rfl : k = n := by omega
      have hnx := HN.out
      have htk2 : xs.take k = xs := List.take_of_length_le (by omega)
      rw [htk2, ← hnx] at hvc
      have c0 : wr.cell? ⟨w.heap.size + 1 + 1, 0, none⟩ = some (.slice adG ng capG) := by rw [cell_of_row wr _ 0 _ _ _ hb3]; rfl
      have c1 : wr.cell? ⟨w.heap.size + 1 + 1, 1, none⟩ = some (.int .i64 secs) := by rw [cell_of_row wr _ 1 _ _ _ hb3]; rfl
      have c3 : wr.cell? ⟨w.heap.size + 1 + 1, 2, none⟩ = some (.slice adc (xs.take k).length capc) := by rw [cell_of_row wr _ 2 _ _ _ hb3]; rfl
      have f0 := frozen_of_row hP.h1 0
      have f1 := frozen_of_row hP.h1 1
      have f2 := frozen_of_row hP.h1 2
      have z0 : wr.cell? ⟨w.heap.size + 1, 0, none⟩ = some (.slice none 0 0) := by rw [cell_of_row wr _ 0 _ _ _ hP.h1]; rfl
      have z1 : wr.cell? ⟨w.heap.size + 1, 1, none⟩ = some (.int .i64 0) := by rw [cell_of_row wr _ 1 _ _ _ hP.h1]; rfl
      have z2 : wr.cell? ⟨w.heap.size + 1, 2, none⟩ = some (.slice none 0 0) := by rw [cell_of_row wr _ 2 _ _ _ hP.h1]; rfl
      rw [htk2] at c3
      have hnx2 : xs.length = k := by omega
      rw [hnx2] at c3
      have h1 := hP.h1
      have hbel := hP.bel
      clear hI0 hLk hL hnx HN
      go_wp2_with fail
      have hne := ownsRow_type hvc h1 (by decide)
      refine bodyPost_ret (results_of rfl _ _ (w.heap.size + 1) _ _ _ (0, 0) rfl (heap_set_cells (heap_set_cells (heap_set_cells h1 _) _) _)) rfl ?_
      refine ⟨_, rfl, ?_, ?_⟩
      · exact ownsRow_base (ownsRow_set (ownsRow_set (ownsRow_set hvc _ _ _ hne) _ _ _ hne) _ _ _ hne) (by omega)
      · exact Below.setCell (Below.setCell (Below.setCell hbel (by show w.heap.size ≤ w.heap.size + 1; omega) _) (by show w.heap.size ≤ w.heap.size + 1; omega) _) (by show w.heap.size ≤ w.heap.size + 1; omega) _

end Go.Proofs.Ytajionjffijffaa

/-
  script.act: an act's line, read.
-/
import Derived.BigRegion
import Derived.RegionTactic
import Derived.Test.YtajionjffijffaaParts
namespace Go.Proofs.Ytajionjffijffaa
open Go.RowKit Go.Sort

def Act5.setN (x : Act5) (i : Nat) (n : Int) : Act5 := match i with
  | 0 => { x with n0 := n }
  | 1 => { x with n1 := n }
  | 2 => { x with n2 := n }
  | _ => { x with n3 := n }
def actLoop (k : Nat) : Nat → Act5 → List (ByteArray × Int) → Int ⊕ Act5
  | _, x, [] => .inr x
  | i, x, y :: ys => if (numS y.1).2 = true ∧ i < k then actLoop k (i + 1) (x.setN i (numS y.1).1) ys else .inl y.2
def zero5 : Act5 := ⟨⟨#[]⟩, 0, 0, 0, 0⟩
def actTail (k : Nat) (n : Nat) (e : Int) : Int ⊕ Act5 → Act5 × Int × Int
  | .inl at' => (zero5, at', 1)
  | .inr x => if n < k then (zero5, e, 1) else (x, 0, 0)
def actS (w0 : ByteArray) (mid : List (ByteArray × Int)) (e : Int) : Act5 × Int × Int := match wordsS w0 with
  | none => (zero5, 1, 12)
  | some k => actTail k mid.length e (actLoop k 0 ⟨w0, 0, 0, 0, 0⟩ mid)
theorem wordsS_le {s : ByteArray} {k : Nat} (h : wordsS s = some k) : k ≤ 4 := by
  unfold wordsS at h
  split at h
  · cases h; omega
  · split at h
    · cases h; omega
    · split at h
      · cases h; omega
      · split at h
        · cases h; omega
        · cases h

theorem results_step {fn : Func} {p u v : Tmp} (h : fn.results = #[.cell p 40, .tmp u, .tmp v]) (tmps : Array Value) (w : World) (g : Nat) (x : Act5) (fr : Nat × Nat) (a b : Value)
    (hp : tmps.getD p undef = .pointer (some ⟨g, 0, none⟩)) (ha : tmps.getD u undef = a) (hb : tmps.getD v undef = b) (hg : w.heap[g]? = some (.cells x.cs 40 fr)) :
    (results fn tmps).run Try.prog w = .ok (.tuple #[x.v, a, b]) w := by
  have hp' : tmps[p]?.getD undef = .pointer (some ⟨g, 0, none⟩) := by simpa using hp
  have ha' : tmps[u]?.getD undef = a := by simpa using ha
  have hb' : tmps[v]?.getD undef = b := by simpa using hb
  have hl := run_loadVar_row (P := Try.prog) w g 40 40 x.cs fr _ hg Try.underlying40 rfl (by kernel_rfl)
  simp [results, h, hp', ha', hb', asAddr, hl, Act5.v]

theorem run_slice_parts (W : World) (g n cap l : Nat) (h : l < cap) (h1 : l + 1 ≤ n) (h2 : n ≤ cap) : (Instr.slice 62 (.slice (some ⟨g, 0, none⟩) n cap) (some (.int .i64 (l : Int))) (some (.int .i64 ((n : Int) - 1))) none).run Try.prog W = .ok (.slice (some ⟨g, l * 2, none⟩) (n - 1 - l) (cap - l)) W := by
  have hi : ∃ i, Try.prog.info? 67 = some i := Option.isSome_iff_exists.1 (by kernel_rfl)
  obtain ⟨i, hi⟩ := hi
  have hc : Try.prog.cellsOf 67 = 2 := by kernel_rfl
  have ht : Try.prog.underlying 62 = some (.slice (Try.prog.elem 62)) := by
    have : Try.prog.elem 62 = 67 := by simp [Program.elem, Try.underlying62]
    rw [this]; exact Try.underlying62
  have he : Try.prog.elem 62 = 67 := by simp [Program.elem, Try.underlying62]
  have hz : (Go.sizeOf 67).run Try.prog W = .ok 2 W := by rw [run_sizeOf W hi, hc]
  rw [run_slice_lh W 62 _ _ _ ht .i64 .i64 _ _ (by omega) (by omega) (by omega), he, hz]
  have hne : ¬ cap = l := by omega
  have e1 : ((n : Int) - 1).toNat = n - 1 := by omega
  have e2 : (⟨g, 0, none⟩ : Addr).add (l * 2) = ⟨g, l * 2, none⟩ := by unfold Addr.add; split <;> simp_all
  simp [Result.andThen, sliced, hne, e1, e2]
theorem run_part_addr2 (W : World) (g o n cap k : Nat) (h : k < n) : (Instr.indexAt 62 (.slice (some ⟨g, o, none⟩) n cap) (.int .i64 (k : Int))).run Try.prog W = .ok (.pointer (some ⟨g, o + k * 2, none⟩)) W := by
  have e : (⟨g, o, none⟩ : Addr).add (k * 2) = ⟨g, o + k * 2, none⟩ := by unfold Addr.add; split <;> simp_all
  simp [Instr.indexAt, asIntOf, run_underlying Try.underlying62, e]
  intro h'
  omega

set_option maxRecDepth 20000 in
set_option maxHeartbeats 2000000 in
theorem act_at (W : World) (B g cap : Nat) (p0 : ByteArray × Int) (mid : List (ByteArray × Int)) (pe : ByteArray × Int) (h : OwnP W B g cap (p0 :: (mid ++ [pe]))) (hml : mid.length < 1000000) :
    Calls Try.prog 41 #[.slice (some ⟨g, 0, none⟩) (mid.length + 2) cap] W fun e w' =>
      e = .returned (.tuple #[(actS p0.1 mid pe.2).1.v, .int .i64 (actS p0.1 mid pe.2).2.1, .int .i64 (actS p0.1 mid pe.2).2.2]) ∧ ∃ g1 : Gr, w' = gr W g1 := by
  have hg := h.lt
  haveI : Old g W := ⟨hg⟩
  have hle := h.le
  have cl0 : W.cell? ⟨g, 0, none⟩ = some (.string p0.1) := h.cell0 0 (by simp)
  have cle : W.cell? ⟨g, (mid.length + 1) * 2 + 1, none⟩ = some (.int .i64 pe.2) := by
    have := h.cell1 (mid.length + 1) (by simp)
    rw [Nat.mul_comm] at this
    simpa using this
  have cm0 : ∀ m (hm : m < mid.length), W.cell? ⟨g, 2 + m * 2, none⟩ = some (.string (mid[m]).1) := fun m hm => by
    have := h.cell0 (m + 1) (by simp; omega)
    rw [show 2 * (m + 1) = 2 + m * 2 by omega] at this
    rw [this]
    simp [List.getElem_append_left hm]
  have cm1 : ∀ m (hm : m < mid.length), W.cell? ⟨g, 2 + m * 2 + 1, none⟩ = some (.int .i64 (mid[m]).2) := fun m hm => by
    have := h.cell1 (m + 1) (by simp; omega)
    rw [show 2 * (m + 1) + 1 = 2 + m * 2 + 1 by omega] at this
    rw [this]
    simp [List.getElem_append_left hm]
  simp only [List.length_cons, List.length_append, List.length_nil] at hle
  have ix0 := fun W : World => run_part_addr2 W g 0 (mid.length + 2) cap 0 (by omega)
  have ixe := fun W : World => run_part_addr2 W g 0 (mid.length + 2) cap (mid.length + 1) (by omega)
  have sl := fun W : World => run_slice_parts W g (mid.length + 2) cap 1 (by omega) (by omega) (by omega)
  have cW := Words_any p0.1
  have hv : wordsV p0.1 = .tuple #[.int .i64 (((wordsS p0.1).getD 0 : Nat) : Int), .bool (wordsS p0.1).isSome] := rfl
  rw [hv] at cW
  clear h hv
  obtain ⟨R, hR⟩ : ∃ R, actS p0.1 mid pe.2 = R := ⟨_, rfl⟩
  rw [hR]
  unfold actS at hR
  cases hw : wordsS p0.1 with
  | none =>
    rw [hw] at cW hR
    simp only [Option.getD_none, Option.isSome_none] at cW
    subst hR
    go_enter Try.func41, Try.ntmps41
    go_wp2_with (go_at_call 11; with_reducible refine (cW.at _).mono ?_; rintro e w' ⟨rfl, g1, rfl⟩)
    have hcell : (gr (W.alloc (.cells zero5.cs 40)) g1).heap[W.heap.size]? = some (.cells zero5.cs 40 (0, 0)) := (gr_heap _ _ (by simp)).trans (World.alloc_heap_new _ _)
    exact bodyPost_ret (results_step rfl _ _ W.heap.size zero5 _ _ _ rfl rfl rfl hcell) rfl ⟨rfl, gr_of_below (by (repeat' (first | (with_reducible exact Below.refl _ _) | (with_reducible refine belowGrU ?_ _) | (with_reducible refine belowAlloc ?_ _) | (with_reducible refine Below.setCell ?_ ?_ _) | (with_reducible refine Below.drew ?_) | (simp [go_sem]; done) | (simp [go_sem]; omega))))⟩
  | some k =>
    rw [hw] at cW hR
    simp only [Option.getD_some, Option.isSome_some] at cW
    have hR : actTail k mid.length pe.2 (actLoop k 0 ⟨p0.1, 0, 0, 0, 0⟩ mid) = R := hR
    have hk4 := wordsS_le hw
    obtain ⟨T, hT⟩ : ∃ T, actLoop k 0 ⟨p0.1, 0, 0, 0, 0⟩ mid = T := ⟨_, rfl⟩
    rw [hT] at hR
    have HT : Hid (actLoop k 0 ⟨p0.1, 0, 0, 0, 0⟩ (mid.drop 0) = T) := hT
    have HR := Lib.hid hR
    obtain ⟨w0, e0⟩ := p0
    obtain ⟨se, ee⟩ := pe
    simp only at cl0 cle cW HT HR
    obtain ⟨M, hM⟩ : ∃ M, mid.length = M := ⟨_, rfl⟩
    rw [hM] at cle ix0 ixe sl HR hml hle ⊢
    have HM := Lib.hid hM
    have CM0 := Lib.hid cm0
    have CM1 := Lib.hid cm1
    have sl' : ∀ W : World, (Instr.slice 62 (.slice (some ⟨g, 0, none⟩) (M + 2) cap) (some (.int .i64 1)) (some (.int .i64 ((M : Int) + 2 - 1))) none).run Try.prog W = .ok (.slice (some ⟨g, 2, none⟩) M (cap - 1)) W := fun W => by
      have := sl W
      rw [show M + 2 - 1 - 1 = M by omega, show ((M + 2 : Nat) : Int) - 1 = (M : Int) + 2 - 1 by omega] at this
      exact this
    clear hR hT hw hM cm0 cm1 sl
    have fin : ∀ (x0 : ByteArray) (x1 x2 x3 x4 : Int) (V : World) (tmps : Array Value) (a b : Value), tmps.getD 2 undef = .pointer (some ⟨W.heap.size, 0, none⟩) → tmps.getD 3 undef = a → tmps.getD 4 undef = b →
        Below (W.alloc (.cells #[.string x0, .int .i64 x1, .int .i64 x2, .int .i64 x3, .int .i64 x4] 40)).heap.size (W.alloc (.cells #[.string x0, .int .i64 x1, .int .i64 x2, .int .i64 x3, .int .i64 x4] 40)) V →
        (results Try.f41 tmps).run Try.prog V = .ok (.tuple #[(⟨x0, x1, x2, x3, x4⟩ : Act5).v, a, b]) V := fun x0 x1 x2 x3 x4 V tmps a b h2 h3 h4 hb =>
      results_step rfl _ _ W.heap.size ⟨x0, x1, x2, x3, x4⟩ (0, 0) a b h2 h3 h4 ((hb.block _ (by simp)).trans (World.alloc_heap_new _ _))
    go_enter Try.func41, Try.ntmps41
    go_wp2_with (go_at_call 11; with_reducible refine (cW.at _).mono ?_; rintro e w' ⟨rfl, g1, rfl⟩)
    go_loopw [34] (fun i wr => ∃ (m : Nat) (x : Act5), m ≤ M ∧ m ≤ 4 ∧ i = .int .i64 (m : Int) ∧ Hid (actLoop k m x (mid.drop m) = T) ∧
        ∃ g' : Gr, wr = gr ((gr (W.alloc (.cells #[.string ⟨#[]⟩, .int .i64 0, .int .i64 0, .int .i64 0, .int .i64 0] 40)) g1).alloc (.cells #[.string x.word, .int .i64 x.n0, .int .i64 x.n1, .int .i64 x.n2, .int .i64 x.n3] 40)) g')
      (fun i _ => M - (intOf i).toNat)
    case atStart => exact ⟨0, ⟨w0, 0, 0, 0, 0⟩, by omega, by omega, rfl, HT, ex_gr _⟩
    case round =>
      obtain ⟨m, x, hm, hm4, rfl, HL, g', rfl⟩ := hrel
      by_cases hlt : m < M
      · have hlen := HM.out
        have hl := HL.out
        rw [List.drop_eq_getElem_cons (by omega), actLoop] at hl
        have hy0 := CM0.out m (by omega)
        have hy1 := CM1.out m (by omega)
        obtain ⟨⟨sy, ay⟩, hy⟩ : ∃ y, mid[m]'(by omega) = y := ⟨_, rfl⟩
        rw [hy] at hl hy0 hy1
        simp only at hl hy0 hy1
        have c := number_any sy
        obtain ⟨⟨nv, okb⟩, hn⟩ : ∃ y, numS sy = y := ⟨_, rfl⟩
        rw [hn] at hl c
        simp only at hl c
        have hix := fun W : World => run_part_addr2 W g 2 M (cap - 1) m hlt
        clear hlen HL HT hy hn
        cases okb
        · rw [if_neg (by simp)] at hl
          subst hl
          go_wp2_with (go_at_call 52; with_reducible refine (c.at _).mono ?_; rintro e w' ⟨rfl, g2, rfl⟩)
          go_region
          go_wp2_with fail
          exact bodyPost_ret (fin ⟨#[]⟩ 0 0 0 0 _ _ _ _ rfl rfl rfl (by (repeat' (first | (with_reducible exact Below.refl _ _) | (with_reducible refine belowGrU ?_ _) | (with_reducible refine belowAlloc ?_ _) | (with_reducible refine Below.setCell ?_ ?_ _) | (with_reducible refine Below.drew ?_) | (simp [go_sem]; done) | (simp [go_sem]; omega))))) rfl ⟨by rw [← HR.out]; rfl, gr_of_below (by (repeat' (first | (with_reducible exact Below.refl _ _) | (with_reducible refine belowGrU ?_ _) | (with_reducible refine belowAlloc ?_ _) | (with_reducible refine Below.setCell ?_ ?_ _) | (with_reducible refine Below.drew ?_) | (simp [go_sem]; done) | (simp [go_sem]; omega))))⟩
        · by_cases hmk : m < k
          · rw [if_pos ⟨rfl, hmk⟩] at hl
            have HL2 := Lib.hid hl
            have h4 : (m : Int) < 4 := by omega
            have hkm : (m : Int) < (k : Int) := by omega
            clear hl
            rcases (show m = 0 ∨ m = 1 ∨ m = 2 ∨ m = 3 by omega) with rfl | rfl | rfl | rfl
            all_goals (
              go_wp2_with (go_at_call 52; with_reducible refine (c.at _).mono ?_; rintro e w' ⟨rfl, g2, rfl⟩)
              all_goals (try (exfalso; omega))
              refine ⟨⟨_, _, by omega, by omega, by go_num, HL2, ex_gr_alloc _ _ _ _⟩, by simp [intOf]; omega⟩)
          · rw [if_neg (fun h => hmk h.2)] at hl
            subst hl
            have hkm : (k : Int) ≤ (m : Int) := by omega
            go_wp2_with (go_at_call 52; with_reducible refine (c.at _).mono ?_; rintro e w' ⟨rfl, g2, rfl⟩)
            all_goals (try (exfalso; omega))
            go_region
            go_wp2_with fail
            exact bodyPost_ret (fin ⟨#[]⟩ 0 0 0 0 _ _ _ _ rfl rfl rfl (by (repeat' (first | (with_reducible exact Below.refl _ _) | (with_reducible refine belowGrU ?_ _) | (with_reducible refine belowAlloc ?_ _) | (with_reducible refine Below.setCell ?_ ?_ _) | (with_reducible refine Below.drew ?_) | (simp [go_sem]; done) | (simp [go_sem]; omega))))) rfl ⟨by rw [← HR.out]; rfl, gr_of_below (by (repeat' (first | (with_reducible exact Below.refl _ _) | (with_reducible refine belowGrU ?_ _) | (with_reducible refine belowAlloc ?_ _) | (with_reducible refine Below.setCell ?_ ?_ _) | (with_reducible refine Below.drew ?_) | (simp [go_sem]; done) | (simp [go_sem]; omega))))⟩
      · obtain rfl : m = M := by omega
        have hlen := HM.out
        have hl := HL.out
        rw [List.drop_of_length_le (by omega), actLoop] at hl
        subst hl
        clear HL HT hlen
        by_cases hmk : m < k
        · have hkm : (m : Int) < (k : Int) := by omega
          have hr := HR.out
          rw [actTail, if_pos hmk] at hr
          have HR2 := Lib.hid hr
          clear hr HR
          go_wp2_with fail
          go_region
          go_wp2_with fail
          exact bodyPost_ret (fin ⟨#[]⟩ 0 0 0 0 _ _ _ _ rfl rfl rfl (by (repeat' (first | (with_reducible exact Below.refl _ _) | (with_reducible refine belowGrU ?_ _) | (with_reducible refine belowAlloc ?_ _) | (with_reducible refine Below.setCell ?_ ?_ _) | (with_reducible refine Below.drew ?_) | (simp [go_sem]; done) | (simp [go_sem]; omega))))) rfl ⟨by rw [← HR2.out]; rfl, gr_of_below (by (repeat' (first | (with_reducible exact Below.refl _ _) | (with_reducible refine belowGrU ?_ _) | (with_reducible refine belowAlloc ?_ _) | (with_reducible refine Below.setCell ?_ ?_ _) | (with_reducible refine Below.drew ?_) | (simp [go_sem]; done) | (simp [go_sem]; omega))))⟩
        · have hkm : (k : Int) ≤ (m : Int) := by omega
          have hr := HR.out
          rw [actTail, if_neg hmk] at hr
          have HR2 := Lib.hid hr
          clear hr HR
          go_wp2_with fail
          exact bodyPost_ret (fin x.word x.n0 x.n1 x.n2 x.n3 _ _ _ _ rfl rfl rfl (by (repeat' (first | (with_reducible exact Below.refl _ _) | (with_reducible refine belowGrU ?_ _) | (with_reducible refine belowAlloc ?_ _) | (with_reducible refine Below.setCell ?_ ?_ _) | (with_reducible refine Below.drew ?_) | (simp [go_sem]; done) | (simp [go_sem]; omega))))) rfl ⟨by rw [← HR2.out]; rfl, gr_of_below (by (repeat' (first | (with_reducible exact Below.refl _ _) | (with_reducible refine belowGrU ?_ _) | (with_reducible refine belowAlloc ?_ _) | (with_reducible refine Below.setCell ?_ ?_ _) | (with_reducible refine Below.drew ?_) | (simp [go_sem]; done) | (simp [go_sem]; omega))))⟩

end Go.Proofs.Ytajionjffijffaa

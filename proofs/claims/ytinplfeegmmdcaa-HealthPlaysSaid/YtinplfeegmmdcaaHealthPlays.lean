/-
  HealthPlays: whether a birth is in any range, in one with another birth, and which one is worst, is the document's; so is a device's sign. No condition.
-/
import Derived.Test.YtinplfeegmmdcaaHealth
import Derived.Test.YtinplfeegmmdcaaRow
import Derived.Handy
import Derived.Test.YtinplfeegmmdcaaOpen2
import Derived.Deep.DeepCutAuto
namespace Go.Proofs.Ytinplfeegmmdcaa
open Go.ChangeShapes Go.WideShapes Go.ChangeAt Go.RowKit Go.Joins

namespace HealthPlays

theorem refRight_yes {a b : Int} (h : okR a b) : Pure Try.prog 16 #[.int .i64 a, .int .i64 b] (.bool true) := by
  intro w
  have h1 : 0 ≤ a := by unfold okR at h; omega
  have h2 : b ≤ 4294967295 := h.2.1
  have h3 : a ≤ b := h.2.2
  have h4 : (a == 0) = false := by rw [beq_eq_false_iff_ne]; unfold okR at h; omega
  have h5 : (b == 0) = false := by rw [beq_eq_false_iff_ne]; unfold okR at h; omega
  clear h
  go_enter Try.func16, Try.ntmps16
  go_wp2
  go_ret
  exact Ret.mk rfl (Below.refl _ _)
theorem refRight_zero : Pure Try.prog 16 #[.int .i64 0, .int .i64 0] (.bool true) := by
  intro w
  go_enter Try.func16, Try.ntmps16
  go_wp2
  go_ret
  exact Ret.mk rfl (Below.refl _ _)
theorem refRight_no {a b : Int} (h : ¬ okR a b) (h0 : ¬ (a = 0 ∧ b = 0)) : Pure Try.prog 16 #[.int .i64 a, .int .i64 b] (.bool false) := by
  intro w
  by_cases h1 : 0 ≤ a
  · by_cases h2 : b ≤ 4294967295
    · by_cases h3 : a ≤ b
      · have h4 : (a == 0) = true := by rw [beq_iff_eq]; unfold okR at h; omega
        have h5 : (b == 0) = false := by rw [beq_eq_false_iff_ne]; simp at h4; omega
        clear h h0
        go_enter Try.func16, Try.ntmps16
        go_wp2
        go_ret
        exact Ret.mk rfl (Below.refl _ _)
      · clear h h0
        go_enter Try.func16, Try.ntmps16
        go_wp2
        go_ret
        exact Ret.mk rfl (Below.refl _ _)
    · clear h h0
      go_enter Try.func16, Try.ntmps16
      go_wp2
      go_ret
      exact Ret.mk rfl (Below.refl _ _)
  · clear h h0
    go_enter Try.func16, Try.ntmps16
    go_wp2
    go_ret
    exact Ret.mk rfl (Below.refl _ _)

theorem refHas_yes {a b n : Int} (h : okR a b ∧ a ≤ n ∧ n ≤ b) : Pure Try.prog 12 #[.int .i64 a, .int .i64 b, .int .i64 n] (.bool true) := by
  intro w
  have k := refRight_yes h.1
  have h1 : 1 ≤ n := by have := h.1; unfold okR at this; omega
  have h2 := h.2.1
  have h3 := h.2.2
  clear h
  go_enter Try.func12, Try.ntmps12
  go_wp2_with (go_at_call 16; with_reducible refine (k.at _).mono ?_; rintro e w' ⟨rfl, g, rfl⟩)
  go_ret
  exact Ret.mk rfl (below_gr _ _)
theorem refHas_no {a b n : Int} (h : ¬ (okR a b ∧ a ≤ n ∧ n ≤ b)) : Pure Try.prog 12 #[.int .i64 a, .int .i64 b, .int .i64 n] (.bool false) := by
  intro w
  by_cases hr : okR a b
  · have k := refRight_yes hr
    by_cases h2 : a ≤ n
    · have h1 : 1 ≤ n := by unfold okR at hr; omega
      have h3 : ¬ n ≤ b := fun h3 => h ⟨hr, h2, h3⟩
      clear h
      go_enter Try.func12, Try.ntmps12
      go_wp2_with (go_at_call 16; with_reducible refine (k.at _).mono ?_; rintro e w' ⟨rfl, g, rfl⟩)
      go_ret
      exact Ret.mk (congrArg Value.bool (by simp; try omega)) (below_gr _ _)
    · clear h
      go_enter Try.func12, Try.ntmps12
      go_wp2_with (go_at_call 16; with_reducible refine (k.at _).mono ?_; rintro e w' ⟨rfl, g, rfl⟩)
      all_goals
        go_ret
        exact Ret.mk rfl (below_gr _ _)
  · by_cases h0 : a = 0 ∧ b = 0
    · obtain ⟨rfl, rfl⟩ := h0
      clear h hr
      have k := refRight_zero
      go_enter Try.func12, Try.ntmps12
      go_wp2_with (go_at_call 16; with_reducible refine (k.at _).mono ?_; rintro e w' ⟨rfl, g, rfl⟩)
      all_goals
        go_ret
        exact Ret.mk (congrArg Value.bool (by simp; try omega)) (below_gr _ _)
    · have k := refRight_no hr h0
      clear h h0 hr
      go_enter Try.func12, Try.ntmps12
      go_wp2_with (go_at_call 16; with_reducible refine (k.at _).mono ?_; rintro e w' ⟨rfl, g, rfl⟩)
      go_ret
      exact Ret.mk rfl (below_gr _ _)
theorem refHas_any (a b n : Int) : Pure Try.prog 12 #[.int .i64 a, .int .i64 b, .int .i64 n] (.bool (hasB a b n)) := by
  by_cases h : okR a b ∧ a ≤ n ∧ n ≤ b
  · rw [has_ok.2 h]; exact refHas_yes h
  · rw [show hasB a b n = false by rw [← Bool.not_eq_true, has_ok]; exact h]; exact refHas_no h

/-- how many births -/
def bir (a b : Int) : Int := if okR a b then b - a + 1 else 0
theorem births_yes {a b : Int} (h : okR a b) : Pure Try.prog 17 #[.agg #[.int .i64 a, .int .i64 b]] (.int .i64 (b - a + 1)) := by
  intro w
  have k := none_yes h
  have h1 : 1 ≤ a := h.1
  have h2 : b ≤ 4294967295 := h.2.1
  have h3 : a ≤ b := h.2.2
  clear h
  go_enter Try.func17, Try.ntmps17
  go_wp2_with (go_at_call 9; with_reducible refine (k.at _).mono ?_; rintro e w' ⟨rfl, g, rfl⟩)
  go_ret
  exact Ret.mk rfl (bel1 _ _ _)
theorem births_no {a b : Int} (h : ¬ okR a b) : Pure Try.prog 17 #[.agg #[.int .i64 a, .int .i64 b]] (.int .i64 0) := by
  intro w
  have k := none_no h
  clear h
  go_enter Try.func17, Try.ntmps17
  go_wp2_with (go_at_call 9; with_reducible refine (k.at _).mono ?_; rintro e w' ⟨rfl, g, rfl⟩)
  go_ret
  exact Ret.mk rfl (bel1 _ _ _)
theorem births_any (a b : Int) : Pure Try.prog 17 #[.agg #[.int .i64 a, .int .i64 b]] (.int .i64 (bir a b)) := by
  by_cases h : okR a b
  · simp only [bir, h, if_true]; exact births_yes h
  · simp only [bir, h, if_false]; exact births_no h

def tag (none away lost : Bool) : Int := if lost then 8224 else if away then 9676 else if none then 10003 else 177
theorem tag_any (a b : Int) (away lost : Bool) : Pure Try.prog 14 #[.agg #[.int .i64 a, .int .i64 b], .bool away, .bool lost] (.int .i32 (tag (!decide (okR a b)) away lost)) := by
  intro w
  by_cases h : okR a b
  · have k := none_yes h
    simp only [h, decide_true, Bool.not_true]
    cases lost <;> cases away
    all_goals
      go_enter Try.func14, Try.ntmps14
      go_wp2_with (go_at_call 9; with_reducible refine (k.at _).mono ?_; rintro e w' ⟨rfl, g, rfl⟩)
      go_ret
      refine Ret.mk rfl ?_
      (repeat' (first | (with_reducible exact Below.refl _ _) | (with_reducible refine belowGrU ?_ _) | (with_reducible refine belowAlloc ?_ _) | (with_reducible refine Below.setCell ?_ ?_ _) | (with_reducible refine Below.drew ?_) | (simp [go_sem]; done) | (simp [go_sem]; omega)))
  · have k := none_no h
    simp only [h, decide_false, Bool.not_false]
    cases lost <;> cases away
    all_goals
      go_enter Try.func14, Try.ntmps14
      go_wp2_with (go_at_call 9; with_reducible refine (k.at _).mono ?_; rintro e w' ⟨rfl, g, rfl⟩)
      go_ret
      refine Ret.mk rfl ?_
      (repeat' (first | (with_reducible exact Below.refl _ _) | (with_reducible refine belowGrU ?_ _) | (with_reducible refine belowAlloc ?_ _) | (with_reducible refine Below.setCell ?_ ?_ _) | (with_reducible refine Below.drew ?_) | (simp [go_sem]; done) | (simp [go_sem]; omega)))

/-- the first with most births, and how many: of the first k -/
def wB (f t : Nat → Int) : Nat → Int × Int
  | 0 => (0, 0)
  | k + 1 => if (wB f t k).2 < bir (f k) (t k) then ((k : Int), bir (f k) (t k)) else wB f t k
theorem bir_le (a b : Int) : 0 ≤ bir a b ∧ bir a b ≤ 4294967296 := by
  unfold bir
  by_cases h : okR a b
  · simp only [h, if_true]; unfold okR at h; omega
  · simp only [h, if_false]; omega
theorem wB_le (f t : Nat → Int) (k : Nat) : 0 ≤ (wB f t k).2 ∧ (wB f t k).2 ≤ 4294967296 ∧ 0 ≤ (wB f t k).1 ∧ (wB f t k).1 ≤ k := by
  induction k with
  | zero => simp [wB]
  | succ k ih =>
    simp only [wB]
    split
    · have := bir_le (f k) (t k)
      simp only
      omega
    · omega

/-- an element's address, in a slice of ranges that has one -/
theorem ix_rng {ad : Option Addr} {blk off len cap k : Nat} (had : ad = some ⟨blk, off, none⟩) (hk : k < len) (W : World) :
    (Instr.indexAt 33 (.slice ad len cap) (.int .i64 (k : Int))).run Try.prog W = .ok (.pointer (some ⟨blk, off + k * 2, none⟩)) W := by
  subst had
  simp [go_sem, hk]

set_option maxHeartbeats 1000000 in
theorem worst_any (ad : Option Addr) (blk off len cap : Nat) (f t : Nat → Int) (w : World) (hlen : len ≤ 100)
    (had : ∀ k, k < len → ad = some ⟨blk, off, none⟩ ∧ blk < w.heap.size)
    (hf : ∀ k, k < len → w.cell? ⟨blk, off + k * 2, none⟩ = some (.int .i64 (f k))) (ht : ∀ k, k < len → w.cell? ⟨blk, off + k * 2 + 1, none⟩ = some (.int .i64 (t k))) :
    Calls Try.prog 13 #[.slice ad len cap] w (Ret (.tuple #[.int .i64 (wB f t len).1, .bool (decide (0 < (wB f t len).2))]) w) := by
  have Hf := Lib.hid hf
  have Ht := Lib.hid ht
  have Had := Lib.hid had
  clear hf ht had
  go_enter Try.func13, Try.ntmps13
  go_wp2_with fail
  go_loopw [4, 5, 11] (fun b m i wr => ∃ k : Nat, k ≤ len ∧ i = .int .i64 k ∧ b = .int .i64 (wB f t k).1 ∧ m = .int .i64 (wB f t k).2 ∧ ∃ g' : Gr, wr = gr w g')
    (fun _ _ i _ => len - (intOf i).toNat)
  case atStart => exact ⟨0, Nat.zero_le _, rfl, rfl, rfl, ex_gr _⟩
  case round =>
    obtain ⟨k, hk, rfl, rfl, rfl, g', rfl⟩ := hrel
    have hw := wB_le f t k
    by_cases hlt : k < len
    · have hcf := Hf.out k hlt
      have hct := Ht.out k hlt
      have hix := ix_rng (cap := cap) (Had.out k hlt).1 hlt
      haveI hbo : Old blk w := ⟨(Had.out k hlt).2⟩
      by_cases hm : (wB f t k).2 < bir (f k) (t k)
      · have e := Lib.hid (show wB f t (k + 1) = ((k : Int), bir (f k) (t k)) by simp only [wB, hm, if_true])
        go_wp2_with (go_at_call 17; with_reducible refine ((births_any _ _).at _).mono ?_; rintro e w' ⟨rfl, g, rfl⟩)
        go_roundw
        case rel => exact ⟨k + 1, by omega, by go_num, by rw [e.out], by rw [e.out], ex_gr_alloc _ _ _ _⟩
        case measure => simp [intOf]; omega
      · have e := Lib.hid (show wB f t (k + 1) = wB f t k by simp only [wB, hm, if_false])
        go_wp2_with (go_at_call 17; with_reducible refine ((births_any _ _).at _).mono ?_; rintro e w' ⟨rfl, g, rfl⟩)
        go_roundw
        case rel => exact ⟨k + 1, by omega, by go_num, by rw [e.out], by rw [e.out], ex_gr_alloc _ _ _ _⟩
        case measure => simp [intOf]; omega
    · obtain rfl : len = k := by omega
      go_wp2_with fail
      go_ret2
      exact Ret.mk rfl (below_gr _ _)

theorem hasB_self (a b : Int) : hasB a b a = decide (okR a b) := by
  rw [Bool.eq_iff_iff, has_ok]
  simp only [decide_eq_true_eq]
  constructor
  · exact fun h => h.1
  · exact fun h => ⟨h, Int.le_refl _, h.2.2⟩
theorem add_bad (a b m n : Int) (hm : ¬ okR m m) : hasB (J1 a b m m) (J2 a b m m) n = hasB a b n := by
  rw [Bool.eq_iff_iff, has_ok, has_ok]
  by_cases h : okR a b
  · simp [J1, J2, h, hm]
  · simp [J1, J2, R1, R2, h, hm, not_ok0]
theorem add_in (a b m : Int) (hm : okR m m) : hasB (J1 a b m m) (J2 a b m m) m = true := by
  rw [has_ok]
  by_cases h : okR a b
  · simp only [J1, J2, h, hm, if_true]
    unfold okR imin imax at *
    split <;> split <;> omega
  · simp only [J1, J2, R1, R2, h, hm, if_true, if_false]
    exact ⟨trivial, Int.le_refl _, Int.le_refl _⟩
theorem add_keeps (a b m n : Int) (hm : okR m m) (hn : hasB a b n = true) : hasB (J1 a b m m) (J2 a b m m) n = true := by
  rw [has_ok] at hn ⊢
  simp only [J1, J2, hn.1, hm, if_true]
  unfold okR imin imax at *
  split <;> split <;> omega

theorem dec1 : Utf8.decode { data := #[194, 177] } 0 = (177, 2) := by decide +kernel
theorem dec2 : Utf8.decode { data := #[226, 156, 147] } 0 = (10003, 3) := by decide +kernel
theorem dec3 : Utf8.decode { data := #[226, 151, 140] } 0 = (9676, 3) := by decide +kernel
theorem dec4 : Utf8.decode { data := #[226, 128, 160] } 0 = (8224, 3) := by decide +kernel

set_option maxRecDepth 100000 in
set_option maxHeartbeats 8000000 in
theorem walk_short (ad : Option Addr) (blk off len cap : Nat) (f t : Nat → Int) (a b n m : Int) (away lost : Bool) (w : World) (hlen : len ≤ 100)
    (had : ∀ k, k < len → ad = some ⟨blk, off, none⟩ ∧ blk < w.heap.size)
    (hf : ∀ k, k < len → w.cell? ⟨blk, off + k * 2, none⟩ = some (.int .i64 (f k))) (ht : ∀ k, k < len → w.cell? ⟨blk, off + k * 2 + 1, none⟩ = some (.int .i64 (t k))) :
    Calls Try.prog 6 #[.slice ad len cap, .agg #[.int .i64 a, .int .i64 b], .int .i64 n, .int .i64 m, .bool away, .bool lost] w (Ret (.bool true) w) := by
  have Hf := Lib.hid hf
  have Ht := Lib.hid ht
  have Had := Lib.hid had
  clear hf ht had
  have hd : decide ((100 : Int) < (len : Int)) = false := by simp; omega
  go_enter Try.func6, Try.ntmps6
  go_upto_region 3 with (go_at_call 8; refine ((awake_any).at _).mono ?_; rintro e w' ⟨rfl, g0, rfl⟩)
  go_cut [52] (fun s wx => s = .bool false ∧ ∃ g : Gr, wx = gr (w.alloc (.cells #[.int .i64 a, .int .i64 b] 23)) g)
  case first =>
    by_cases hr : okR a b
    all_goals
      first
        | (have c1 := none_yes hr
           have c2 := refHas_yes (n := a) ⟨hr, Int.le_refl _, hr.2.2⟩
           refine wp_region_gr2 (by kernel_rfl) (by kernel_rfl) ?_
           repeat (go_big_quiet_step (first | (with_reducible exact c1.inClass _ _) | (with_reducible exact c2.inClass _ _) | (with_reducible exact (has_any _ _ _).inClass _ _) | (with_reducible exact (refHas_any _ _ _).inClass _ _))))
        | (have c1 := none_no hr
           have c2 := refHas_no (n := a) (fun h => hr h.1)
           refine wp_region_gr2 (by kernel_rfl) (by kernel_rfl) ?_
           repeat (go_big_quiet_step (first | (with_reducible exact c1.inClass _ _) | (with_reducible exact c2.inClass _ _) | (with_reducible exact (has_any _ _ _).inClass _ _) | (with_reducible exact (refHas_any _ _ _).inClass _ _))))
      refine wpQuiet_nil ?_
      rintro _ ⟨g3, rfl⟩
      go_wp2_with fail
      go_meet
      exact ⟨rfl, _, rfl⟩
  case rest =>
    obtain ⟨rfl, g1, rfl⟩ := hcut
    go_upto_region 6 with (go_at_call 10; refine ((add_any _ _ _).at _).mono ?_; rintro e w' ⟨rfl, gi, rfl⟩)
    go_cut [61] (fun s wx => s = .bool (!decide (okR m m)) ∧ ∃ g : Gr, wx = gr ((gr (w.alloc (.cells #[.int .i64 a, .int .i64 b] 23)) (g1.seq gi)).alloc (.cells #[.int .i64 (J1 a b m m), .int .i64 (J2 a b m m)] 23)) g)
    case first =>
      by_cases hm : okR m m
      · have m1 : 1 ≤ m := hm.1
        have m2 : m ≤ 4294967295 := hm.2.1
        have e := Lib.hid (show (!decide (okR m m)) = false by simp [hm])
        go_wp2_with fail
        go_meet
        exact ⟨by rw [e.out] <;> (simp; try omega), ex_gr _⟩
      · have e := Lib.hid (show (!decide (okR m m)) = true by simp [hm])
        by_cases m1 : m < 1
        · go_wp2_with fail
          go_meet
          exact ⟨by rw [e.out], ex_gr _⟩
        · have m2 : 4294967295 < m := by unfold okR at hm; omega
          go_wp2_with fail
          go_meet
          exact ⟨by rw [e.out] <;> (simp; try omega), ex_gr _⟩
    case rest =>
      obtain ⟨rfl, g2, rfl⟩ := hcut
      go_upto_if 61 with fail
      go_cut [] (fun wx => ∃ g : Gr, wx = gr (w.alloc (.cells #[.int .i64 a, .int .i64 b] 23)) g)
      case first =>
        by_cases hm : okR m m
        · simp only [hm, decide_true, Bool.not_true]
          have k1 := has_any (J1 a b m m) (J2 a b m m) m
          rw [add_in a b m hm] at k1
          have k2 := has_any (J1 a b m m) (J2 a b m m) n
          have k3 := has_any a b n
          have hn := add_keeps a b m n hm
          by_cases hx : hasB a b n = true
          · rw [hn hx] at k2
            rw [hx] at k3
            clear hn hx
            go_wp2_with (go_at_call 11; (first | (with_reducible refine (k1.at _).mono ?_) | (with_reducible refine (k2.at _).mono ?_) | (with_reducible refine (k3.at _).mono ?_)); rintro e w' ⟨rfl, gi, rfl⟩)
            go_meet
            exact ex_gr_alloc _ _ _ _
          · simp only [Bool.not_eq_true] at hx
            rw [hx] at k3
            clear hn hx
            go_wp2_with (go_at_call 11; (first | (with_reducible refine (k1.at _).mono ?_) | (with_reducible refine (k2.at _).mono ?_) | (with_reducible refine (k3.at _).mono ?_)); rintro e w' ⟨rfl, gi, rfl⟩)
            go_meet
            exact ex_gr_alloc _ _ _ _
        · simp only [hm, decide_false, Bool.not_false]
          have k2 := has_any (J1 a b m m) (J2 a b m m) n
          have k3 := has_any a b n
          rw [add_bad a b m n hm] at k2
          go_wp2_with fail
          refine wp_region_gr2 (by kernel_rfl) (by kernel_rfl) ?_
          repeat (go_big_quiet_step (first | (with_reducible exact k2.inClass _ _) | (with_reducible exact k3.inClass _ _)))
          refine wpQuiet_nil ?_
          rintro _ ⟨g3, rfl⟩
          go_wp2_with fail
          go_meet
          exact ex_gr_alloc _ _ _ _
      case rest =>
        obtain ⟨g3, rfl⟩ := hcut
        go_wp2_with fail
        go_loopw [14, 15, 16] (fun b1 m1 i wr => ∃ k : Nat, k ≤ len ∧ i = .int .i64 k ∧ b1 = .int .i64 (wB f t k).1 ∧ m1 = .int .i64 (wB f t k).2 ∧ ∃ g' : Gr, wr = gr (w.alloc (.cells #[.int .i64 a, .int .i64 b] 23)) g')
          (fun _ _ i _ => len - (intOf i).toNat)
        case atStart => exact ⟨0, Nat.zero_le _, rfl, rfl, rfl, _, rfl⟩
        case round =>
          obtain ⟨k, hk, rfl, rfl, rfl, g', rfl⟩ := hrel
          have hw := wB_le f t k
          by_cases hlt : k < len
          · have hcf := Hf.out k hlt
            have hct := Ht.out k hlt
            have hix := ix_rng (cap := cap) (Had.out k hlt).1 hlt
            haveI hbo : Old blk w := ⟨(Had.out k hlt).2⟩
            have c1 := refHas_any (f k) (t k) (f k)
            rw [hasB_self] at c1
            by_cases ho : okR (f k) (t k)
            · have o1 : 1 ≤ f k := ho.1
              have o2 : t k ≤ 4294967295 := ho.2.1
              have o3 : f k ≤ t k := ho.2.2
              have eb : bir (f k) (t k) = t k - f k + 1 := by simp [bir, ho]
              rw [decide_eq_true ho] at c1
              by_cases hm : (wB f t k).2 < t k - f k + 1
              · have e := Lib.hid (show wB f t (k + 1) = ((k : Int), t k - f k + 1) by simp only [wB, eb, hm, if_true])
                clear eb ho
                go_wp2_with fail
                refine wp_region_gr2 (by kernel_rfl) (by kernel_rfl) ?_
                repeat (go_big_quiet_step (with_reducible exact c1.inClass _ _))
                refine wpQuiet_nil ?_
                rintro _ ⟨g3, rfl⟩
                go_wp2_with fail
                refine wp_region_gr2 (by kernel_rfl) (by kernel_rfl) ?_
                repeat (go_big_quiet_step (fail))
                refine wpQuiet_nil ?_
                rintro _ ⟨g4, rfl⟩
                go_wp2_with fail
                go_roundw
                case rel => exact ⟨k + 1, by omega, by go_num, by rw [e.out], by rw [e.out], _, rfl⟩
                case measure => simp [intOf]; omega
              · have e := Lib.hid (show wB f t (k + 1) = wB f t k by simp only [wB, eb, hm, if_false])
                clear eb ho
                go_wp2_with fail
                refine wp_region_gr2 (by kernel_rfl) (by kernel_rfl) ?_
                repeat (go_big_quiet_step (with_reducible exact c1.inClass _ _))
                refine wpQuiet_nil ?_
                rintro _ ⟨g3, rfl⟩
                go_wp2_with fail
                go_roundw
                case rel => exact ⟨k + 1, by omega, by go_num, by rw [e.out], by rw [e.out], _, rfl⟩
                case measure => simp [intOf]; omega
            · have eb : bir (f k) (t k) = 0 := by simp [bir, ho]
              rw [decide_eq_false ho] at c1
              have e := Lib.hid (show wB f t (k + 1) = wB f t k by simp only [wB, eb]; rw [if_neg (by omega)])
              clear eb ho
              go_wp2_with fail
              refine wp_region_gr2 (by kernel_rfl) (by kernel_rfl) ?_
              repeat (go_big_quiet_step (with_reducible exact c1.inClass _ _))
              refine wpQuiet_nil ?_
              rintro _ ⟨g3, rfl⟩
              go_wp2_with fail
              go_roundw
              case rel => exact ⟨k + 1, by omega, by go_num, by rw [e.out], by rw [e.out], _, rfl⟩
              case measure => simp [intOf]; omega
          · obtain rfl : len = k := by omega
            clear hk hlt
            have hw := Lib.hid hw
            have cw : ∀ g : Gr, Calls Try.prog 13 #[.slice ad len cap] (gr (w.alloc (.cells #[.int .i64 a, .int .i64 b] 23)) g) fun e w' => e = .returned (.tuple #[.int .i64 (wB f t len).1, .bool (decide (0 < (wB f t len).2))]) ∧ ∃ g2 : Gr, w' = gr (w.alloc (.cells #[.int .i64 a, .int .i64 b] 23)) g2 := by
              intro g
              refine (worst_any ad blk off len cap f t _ hlen ?_ ?_ ?_).mono ?_
              · intro k hk
                haveI hbo : Old blk w := ⟨(Had.out k hk).2⟩
                exact ⟨(Had.out k hk).1, Old.h⟩
              · intro k hk
                haveI hbo : Old blk w := ⟨(Had.out k hk).2⟩
                rw [cell_gr, cell_past]; exact Hf.out k hk
              · intro k hk
                haveI hbo : Old blk w := ⟨(Had.out k hk).2⟩
                rw [cell_gr, cell_past]; exact Ht.out k hk
              · rintro e w' ⟨he, hb⟩
                obtain ⟨g', h'⟩ := gr_of_below hb
                exact ⟨he, _, by rw [h', gr_gr]⟩
            go_upto_region 20 with (go_at_call 13; with_reducible refine (cw _).mono ?_; rintro e w' ⟨rfl, g5, rfl⟩)
            have ct := tag_any a b away lost
            have d1 := dec1
            have d2 := dec2
            have d3 := dec3
            have d4 := dec4
            by_cases hr : okR a b
            all_goals
              first
                | (have cn := none_yes hr; rw [decide_eq_true hr] at ct)
                | (have cn := none_no hr; rw [decide_eq_false hr] at ct)
              clear hr
              cases lost <;> cases away
              all_goals
                simp only [tag, Bool.not_true, Bool.not_false, Bool.false_eq_true, if_true, if_false] at ct
                go_wp2_with (first | (go_at_call 9; with_reducible refine (cn.at _).mono ?_; rintro e w' ⟨rfl, gi, rfl⟩) | (go_at_call 14; with_reducible refine (ct.at _).mono ?_; rintro e w' ⟨rfl, gi, rfl⟩))
                refine wp_loop_rounds 2 ?_
                rw [rounds_succ]
                go_wp2_with (first | (go_at_call 14; with_reducible refine (ct.at _).mono ?_; rintro e w' ⟨rfl, gi, rfl⟩))
                rw [rounds_succ]
                go_wp2_with fail
                go_ret
                refine Ret.mk rfl ?_
                (repeat' (first | (with_reducible exact Below.refl _ _) | (with_reducible refine belowGrU ?_ _) | (with_reducible refine belowAlloc ?_ _) | (with_reducible refine Below.setCell ?_ ?_ _) | (with_reducible refine Below.drew ?_) | (simp [go_sem]; done) | (simp [go_sem]; omega)))

theorem walk_long (ad : Option Addr) (len cap : Nat) (a b n m : Int) (away lost : Bool) (w : World) (hlen : 100 < len) (hm : len ≤ maxLen) :
    Calls Try.prog 6 #[.slice ad len cap, .agg #[.int .i64 a, .int .i64 b], .int .i64 n, .int .i64 m, .bool away, .bool lost] w (Ret (.bool true) w) := by
  unfold maxLen at hm
  have hd : decide ((100 : Int) < (len : Int)) = true := by simp; omega
  go_enter Try.func6, Try.ntmps6
  go_wp2_with (go_at_call 8; refine ((awake_any).at _).mono ?_; rintro e w' ⟨rfl, g, rfl⟩)
  go_ret
  refine Ret.mk rfl ?_
  (repeat' (first | (with_reducible exact Below.refl _ _) | (with_reducible refine belowGrU ?_ _) | (with_reducible refine belowAlloc ?_ _) | (with_reducible refine Below.setCell ?_ ?_ _) | (with_reducible refine Below.drew ?_) | (simp [go_sem]; done) | (simp [go_sem]; omega)))

theorem lawWalk : LawWalk 6 Try.f6.params := by
  intro H enc W base args ds p hval hA _ _
  rw [Try.params6] at hA hval
  obtain ⟨v0, vs0, d0, ds0, p0, q0, hargs, rfl, rfl, h0, r0⟩ := trodAll_cons hA
  obtain ⟨v1, vs1, d1, ds1, p1, q1, rfl, rfl, rfl, h1, r1⟩ := trodAll_cons r0
  obtain ⟨v2, vs2, d2, ds2, p2, q2, rfl, rfl, rfl, h2, r2⟩ := trodAll_cons r1
  obtain ⟨v3, vs3, d3, ds3, p3, q3, rfl, rfl, rfl, h3, r3⟩ := trodAll_cons r2
  obtain ⟨v4, vs4, d4, ds4, p4, q4, rfl, rfl, rfl, h4, r4⟩ := trodAll_cons r3
  obtain ⟨v5, vs5, d5, ds5, p5, q5, rfl, rfl, rfl, h5, r5⟩ := trodAll_cons r4
  obtain ⟨rfl, rfl, rfl⟩ := trodAll_nil r5
  obtain rfl : args = #[v0, v1, v2, v3, v4, v5] := by cases args; simp_all
  obtain ⟨ad, blk, off, len, cap, f, t, rfl, hm, had, hf, ht⟩ := open_sl2 Try.underlying33 Try.underlying23 Try.cellsR Try.underlying3 Try.cellsI rfl rfl rfl rfl (hval 0 33 v0 rfl rfl) h0
  obtain ⟨a, b, rfl⟩ := open_rng (hval 1 23 v1 rfl rfl) h1
  obtain ⟨n, rfl, _, _, _⟩ := open_int Try.underlying3 (hval 2 3 v2 rfl rfl) h2
  obtain ⟨m, rfl, _, _, _⟩ := open_int Try.underlying3 (hval 3 3 v3 rfl rfl) h3
  obtain ⟨away, rfl, _, _⟩ := open_bool Try.underlying4 (hval 4 4 v4 rfl rfl) h4
  obtain ⟨lost, rfl, _, _⟩ := open_bool Try.underlying4 (hval 5 4 v5 rfl rfl) h5
  by_cases hl : len ≤ 100
  · exact walk_short ad blk off len cap f t a b n m away lost W hl had hf ht
  · exact walk_long ad len cap a b n m away lost W (by omega) hm

set_option maxRecDepth 100000 in
theorem holds : Rows.HealthPlaysSaid :=
  OpenClaim.holds_of_wide 6 Try.f6 rfl rfl rfl rfl rfl rfl rfl ⟨rfl, rfl, rfl, rfl, rfl⟩ rfl rfl rfl rfl rfl (by kernel_rfl) Try.func6 (by kernel_rfl)
    (of_decide_eq_true (by kernel_rfl)) (by unfold Func.isWrapper; first | (rw [if_pos (by decide +kernel)]; kernel_rfl) | (rw [if_neg (by decide +kernel)]; exact ⟨rfl, rfl⟩))
    (fun os started H enc _ => law_lifted (s := Rows.healthPlaysSpec) started (by kernel_rfl) Try.func6 rfl rfl Try.underlying4 (by kernel_rfl)
      (fun ds h => by
        rw [Try.params6] at h
        match ds, h with
        | [d1, d2, d3, d4, d5, d6], _ => rfl)
      (ChangeSpec.witness6 (enc := enc) (C := Try.checked) false ⟨#[], #[.slice none 0 0, .agg #[.int .i64 0, .int .i64 0], .int .i64 0, .int .i64 0, .bool false, .bool false], []⟩ 8 (by kernel_rfl) (by kernel_rfl) (by kernel_rfl) (by kernel_rfl))
      lawWalk)
#print axioms holds

end HealthPlays
end Go.Proofs.Ytinplfeegmmdcaa

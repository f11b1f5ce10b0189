/-
  The document's own sum (polderref02): More, Sum.
-/
import Derived.Test.YtnflakaphbjbhaaRefs
namespace Go.Proofs.Ytnflakaphbjbhaa
open Go.RowKit Go.Sort

/-- four bytes of a text -/
def cut4 (p : ByteArray) (k : Nat) : ByteArray := p.extract (4 * k) (4 * k + 4)
theorem cut4_size {p : ByteArray} {k : Nat} (h : 4 * k + 4 ≤ p.size) : (cut4 p k).size = 4 := by unfold cut4; rw [ByteArray.size_extract]; omega
theorem cut4_num {p : ByteArray} {k : Nat} (_ : 4 * k + 4 ≤ p.size) : num (cut4 p k) 0 (cut4 p k).size = wordAt p k := by
  rw [num_all]
  unfold wordAt num cut4
  congr 1
  rw [Lib.extract_data]
  congr 1
  omega
theorem CutNumber_any (p : ByteArray) (k : Nat) (h : 4 * k + 4 ≤ p.size) : Pure Try.prog 20 #[.string (cut4 p k)] (.int .u64 (wordAt p k : Int)) := by
  have c := Number_any (cut4 p k) (by rw [cut4_size h]; omega)
  rwa [cut4_num h] at c

set_option maxHeartbeats 1000000 in
theorem MoreRef_any (x : S4) (s : ByteArray) (hs : s.size < 4611686018427387900) :
    Pure Try.prog 17 #[x.v, .string s] (sums x (wordsL (pad4 s))).v := by
  intro w
  have cP := PadRef_any s hs
  have hp4 := pad4_mod s
  have hpl : (pad4 s).size < 4611686018427387904 := by rw [pad4_size]; have := padN_lt s; omega
  obtain ⟨p, hp⟩ : ∃ p, pad4 s = p := ⟨_, rfl⟩
  rw [hp] at cP hp4 hpl ⊢
  clear hp
  obtain ⟨a, b, c, d⟩ := x
  simp only [S4.v, S4.cs]
  go_enter Try.func17, Try.ntmps17
  go_wp2_with (go_at_call 18; with_reducible refine (cP.at _).mono ?_; rintro e w' ⟨rfl, g, rfl⟩)
  clear cP
  go_loopw [5] (fun i wr => ∃ k : Nat, k ≤ nwords p ∧ i = .int .i64 ((4 * k : Nat) : Int) ∧ ∃ g' : Gr, wr = gr ((w.alloc (.cells (sums ⟨a, b, c, d⟩ (wordsTo p k)).cs 29)).alloc (.cells zero4.cs 29)) g')
    (fun i _ => p.size - (intOf i).toNat)
  case atStart => exact ⟨0, Nat.zero_le _, rfl, _, rfl⟩
  case round =>
    obtain ⟨k, hk, rfl, g', rfl⟩ := hrel
    by_cases hlt : k < nwords p
    · have h4 : 4 * k + 4 ≤ p.size := by unfold nwords at hlt; omega
      have cN := CutNumber_any p k h4
      have hcut : p.extract (4 * k) (4 * k + 4) = cut4 p k := rfl
      have hstep := wordsTo_succ p k
      have hsum : sums ⟨a, b, c, d⟩ (wordsTo p (k + 1)) = (sums ⟨a, b, c, d⟩ (wordsTo p k)).step (wordAt p k) := by rw [hstep, sums_snoc]
      obtain ⟨⟨y0, y1, y2, y3⟩, hY⟩ : ∃ y, sums ⟨a, b, c, d⟩ (wordsTo p k) = y := ⟨_, rfl⟩
      obtain ⟨X, hX⟩ : ∃ X, wordAt p k = X := ⟨_, rfl⟩
      rw [hX] at cN hsum
      rw [hY] at hsum ⊢
      have HS := Lib.hid hsum
      clear hsum hstep hY hX
      simp only [S4.cs, zero4]
      go_wp2_with fail
      refine wp_region_gr_tail2 10 (by kernel_rfl) (by kernel_rfl) ?_
      simp only [List.take_succ_cons, List.take_zero, List.drop_succ_cons, List.drop_zero]
      repeat (go_big_quiet_step (first | (with_reducible exact cN.inClass _ _)))
      refine wpQuiet_nil ?_
      rintro _ ⟨g5, rfl⟩
      go_wp2_with fail
      go_roundw
      case rel =>
        refine ⟨k + 1, hlt, by go_num, g5, ?_⟩
        rw [HS.out]
        simp only [wrap_add]
        rfl
      case measure => simp [intOf]; omega
    · obtain rfl : k = nwords p := by omega
      have hz : 4 * nwords p = p.size := by unfold nwords; omega
      rw [hz]
      obtain ⟨⟨y0, y1, y2, y3⟩, hY⟩ : ∃ y, sums ⟨a, b, c, d⟩ (wordsTo p (nwords p)) = y := ⟨_, rfl⟩
      have HY : Hid (sums ⟨a, b, c, d⟩ (wordsL p) = ⟨y0, y1, y2, y3⟩) := hY
      rw [hY]
      clear hY
      simp only [S4.cs, zero4]
      go_wp2_with fail
      have hcell : (gr ((w.alloc (.cells #[.int .u64 (y0 : Int), .int .u64 (y1 : Int), .int .u64 (y2 : Int), .int .u64 (y3 : Int)] 29)).alloc (.cells #[.int .u64 (y0 : Int), .int .u64 (y1 : Int), .int .u64 (y2 : Int), .int .u64 (y3 : Int)] 29)) g').heap[w.heap.size + 1]? = some (.cells #[.int .u64 (y0 : Int), .int .u64 (y1 : Int), .int .u64 (y2 : Int), .int .u64 (y3 : Int)] 29 (0, 0)) := by
        rw [gr_heap _ _ (by simp)]
        have h := World.alloc_heap_new (w.alloc (.cells #[.int .u64 (y0 : Int), .int .u64 (y1 : Int), .int .u64 (y2 : Int), .int .u64 (y3 : Int)] 29)) (.cells #[.int .u64 (y0 : Int), .int .u64 (y1 : Int), .int .u64 (y2 : Int), .int .u64 (y3 : Int)] 29)
        rwa [World.size_alloc] at h
      exact bodyPost_ret (results_cell_row rfl _ _ (w.heap.size + 1) 29 _ _ _ rfl hcell Try.underlying29 rfl (by kernel_rfl)) rfl (Ret.mk (by rw [HY.out]) (by (repeat' (first | (with_reducible exact Below.refl _ _) | (with_reducible refine belowGrU ?_ _) | (with_reducible refine belowAlloc ?_ _) | (with_reducible refine Below.setCell ?_ ?_ _) | (with_reducible refine Below.drew ?_) | (simp [go_sem]; done) | (simp [go_sem]; omega)))))

theorem SumRef_any (s : ByteArray) (hs : s.size < 4611686018427387900) : Pure Try.prog 15 #[.string s] (sum4 s).v := by
  intro w
  have c : Pure Try.prog 17 #[.agg #[.int .u64 0, .int .u64 0, .int .u64 0, .int .u64 0], .string s] (sum4 s).v := MoreRef_any zero4 s hs
  generalize sum4 s = z at c ⊢
  obtain ⟨z0, z1, z2, z3⟩ := z
  simp only [S4.v, S4.cs] at c ⊢
  go_enter Try.func15, Try.ntmps15
  go_wp2_with (go_at_call 17; with_reducible refine (c.at _).mono ?_; rintro e w' ⟨rfl, g, rfl⟩)
  have hcell : (gr (w.alloc (.cells #[.int .u64 (z0 : Int), .int .u64 (z1 : Int), .int .u64 (z2 : Int), .int .u64 (z3 : Int)] 29)) g).heap[w.heap.size]? = some (.cells #[.int .u64 (z0 : Int), .int .u64 (z1 : Int), .int .u64 (z2 : Int), .int .u64 (z3 : Int)] 29 (0, 0)) := by
    rw [gr_heap _ _ (by simp)]; exact World.alloc_heap_new _ _
  exact bodyPost_ret (results_cell_row rfl _ _ w.heap.size 29 _ _ _ rfl hcell Try.underlying29 rfl (by kernel_rfl)) rfl (Ret.mk rfl (by (repeat' (first | (with_reducible exact Below.refl _ _) | (with_reducible refine belowGrU ?_ _) | (with_reducible refine belowAlloc ?_ _) | (with_reducible refine Below.setCell ?_ ?_ _) | (with_reducible refine Below.drew ?_) | (simp [go_sem]; done) | (simp [go_sem]; omega)))))

end Go.Proofs.Ytnflakaphbjbhaa

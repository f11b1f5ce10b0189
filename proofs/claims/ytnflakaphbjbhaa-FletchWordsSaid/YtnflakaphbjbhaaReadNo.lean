/-
  fletch.Read of a text that is too short; the document's bytes of what was read.
-/
import Derived.Test.YtnflakaphbjbhaaRefMore
namespace Go.Proofs.Ytnflakaphbjbhaa
open Go.RowKit Go.Sort

theorem number_short {b : Nat} {s : ByteArray} {i n : Nat} (hi : i ≤ s.size) (hx : s.size < i + n) (hs : s.size < 4611686018427387904) (w : World) (h : Rd b s i w) :
    Calls Try.prog 35 #[.pointer (some ⟨b, 0, none⟩), .int .i64 (n : Int)] w fun e w' =>
      e = .returned (.tuple #[.int .u64 0, .int .i64 2]) ∧ ∃ g : Gr, w' = gr w g := by
  haveI := h.old
  have h0 := h.c0
  have h1 := h.c1
  have hf := h.fr
  have c1 := Left_at hi hs w h
  clear h
  go_enter Try.func35, Try.ntmps35
  go_wp2_with (go_at_call 27; with_reducible refine c1.mono ?_; rintro e w' ⟨rfl, g, rfl⟩)
  all_goals (try (exfalso; omega))
  go_ret2
  exact ⟨rfl, _, rfl⟩

theorem U64_short {b : Nat} {s : ByteArray} {i : Nat} (hi : i ≤ s.size) (hx : s.size < i + 8) (hs : s.size < 4611686018427387904) (w : World) (h : Rd b s i w) :
    Calls Try.prog 23 #[.pointer (some ⟨b, 0, none⟩)] w fun e w' =>
      e = .returned (.tuple #[.int .u64 0, .int .i64 2]) ∧ ∃ g : Gr, w' = gr w g := by
  have c1 : Calls Try.prog 35 #[.pointer (some ⟨b, 0, none⟩), .int .i64 8] w fun e w' => e = .returned (.tuple #[.int .u64 0, .int .i64 2]) ∧ ∃ g : Gr, w' = gr w g := number_short (n := 8) hi hx hs w h
  go_enter Try.func23, Try.ntmps23
  go_wp2_with (go_at_call 35; with_reducible refine c1.mono ?_; rintro e w' ⟨rfl, g, rfl⟩)
  go_ret2
  exact ⟨rfl, _, rfl⟩

set_option maxHeartbeats 1000000 in
theorem Read_no (s : ByteArray) (h : s.size < 32) (W : World) :
    Calls Try.prog 12 #[.pointer (some ⟨W.heap.size, 0, none⟩)] (W.alloc (.cells #[.string s, .int .i64 0] 50)) fun e w' => e = .returned (.tuple #[zero4.v, .int .i64 2]) ∧ ∃ g : Gr, w' = gr W g := by
  have hs : s.size < 4611686018427387904 := by omega
  go_enter Try.func12, Try.ntmps12
  go_wp2_with fail
  go_loopw [8] (fun i wr => ∃ k : Nat, 8 * k ≤ s.size ∧ i = .int .i64 k ∧ ∃ (x : S4) (g : Gr), wr = gr (rdW W s k x) g)
    (fun i _ => 4 - (intOf i).toNat)
  case atStart => exact ⟨0, by omega, rfl, zero4, ex_gr _⟩
  case round =>
    obtain ⟨k, hk, rfl, ⟨x0, x1, x2, x3⟩, g, rfl⟩ := hrel
    have hR : Rd W.heap.size s (8 * k) (gr (rdW W s k ⟨x0, x1, x2, x3⟩) g) := by
      refine ⟨?_, ?_, ?_, ?_⟩
      · unfold rdW; exact inferInstance
      · simp [rdW, go_sem]
      · simp [rdW, go_sem]
      · simp [rdW, go_sem]
    by_cases h8 : 8 * k + 8 ≤ s.size
    · have c : Calls Try.prog 23 #[.pointer (some ⟨W.heap.size, 0, none⟩)] (gr (rdW W s k ⟨x0, x1, x2, x3⟩) g) fun e w' =>
          e = .returned (.tuple #[.int .u64 (num s (8 * k) 8 : Int), .int .i64 0]) ∧ ∃ g1 : Gr, w' = gr (rdW W s (k + 1) ⟨x0, x1, x2, x3⟩) g1 :=
        (U64_at h8 hs _ hR).mono fun e w' ⟨he, g1, hw⟩ => ⟨he, g.seq g1, by rw [hw, rdW_next]⟩
      clear hR
      rcases (show k = 0 ∨ k = 1 ∨ k = 2 by omega) with rfl | rfl | rfl
      · have hm : rdW W s (0 + 1) ⟨x0, x1, x2, x3⟩ = ((W.alloc (.cells #[.string s, .int .i64 8] 50)).alloc (.cells #[.int .u64 0, .int .u64 0, .int .u64 0, .int .u64 0] 29)).alloc (.cells #[.int .u64 (x0 : Int), .int .u64 (x1 : Int), .int .u64 (x2 : Int), .int .u64 (x3 : Int)] 29) := rfl
        have HM := Lib.hid hm
        clear hm
        generalize num s (8 * 0) 8 = V at *
        go_wp2_with (go_at_call 23; with_reducible refine c.mono ?_; rintro e w' ⟨rfl, g1, rfl⟩; rw [HM.out])
        go_roundw
        case rel => exact ⟨1, by omega, rfl, ⟨V, x1, x2, x3⟩, g1, rfl⟩
        case measure => simp [intOf]
      · have hm : rdW W s (1 + 1) ⟨x0, x1, x2, x3⟩ = ((W.alloc (.cells #[.string s, .int .i64 16] 50)).alloc (.cells #[.int .u64 0, .int .u64 0, .int .u64 0, .int .u64 0] 29)).alloc (.cells #[.int .u64 (x0 : Int), .int .u64 (x1 : Int), .int .u64 (x2 : Int), .int .u64 (x3 : Int)] 29) := rfl
        have HM := Lib.hid hm
        clear hm
        generalize num s (8 * 1) 8 = V at *
        go_wp2_with (go_at_call 23; with_reducible refine c.mono ?_; rintro e w' ⟨rfl, g1, rfl⟩; rw [HM.out])
        go_roundw
        case rel => exact ⟨2, by omega, rfl, ⟨x0, V, x2, x3⟩, g1, rfl⟩
        case measure => simp [intOf]
      · have hm : rdW W s (2 + 1) ⟨x0, x1, x2, x3⟩ = ((W.alloc (.cells #[.string s, .int .i64 24] 50)).alloc (.cells #[.int .u64 0, .int .u64 0, .int .u64 0, .int .u64 0] 29)).alloc (.cells #[.int .u64 (x0 : Int), .int .u64 (x1 : Int), .int .u64 (x2 : Int), .int .u64 (x3 : Int)] 29) := rfl
        have HM := Lib.hid hm
        clear hm
        generalize num s (8 * 2) 8 = V at *
        go_wp2_with (go_at_call 23; with_reducible refine c.mono ?_; rintro e w' ⟨rfl, g1, rfl⟩; rw [HM.out])
        go_roundw
        case rel => exact ⟨3, by omega, rfl, ⟨x0, x1, V, x3⟩, g1, rfl⟩
        case measure => simp [intOf]
    · have c := U64_short hk (by omega) hs _ hR
      clear hR
      have hk3 : k ≤ 3 := by omega
      have hm : rdW W s k ⟨x0, x1, x2, x3⟩ = ((W.alloc (.cells #[.string s, .int .i64 ((8 * k : Nat) : Int)] 50)).alloc (.cells #[.int .u64 0, .int .u64 0, .int .u64 0, .int .u64 0] 29)).alloc (.cells #[.int .u64 (x0 : Int), .int .u64 (x1 : Int), .int .u64 (x2 : Int), .int .u64 (x3 : Int)] 29) := rfl
      rw [hm] at c ⊢
      clear hm
      generalize ((8 * k : Nat) : Int) = Z at c ⊢
      go_wp2_with (go_at_call 23; with_reducible refine c.mono ?_; rintro e w' ⟨rfl, g1, rfl⟩)
      all_goals (try (exfalso; omega))
      have hcell : (gr (((W.alloc (.cells #[.string s, .int .i64 Z] 50)).alloc (.cells #[.int .u64 0, .int .u64 0, .int .u64 0, .int .u64 0] 29)).alloc (.cells #[.int .u64 (x0 : Int), .int .u64 (x1 : Int), .int .u64 (x2 : Int), .int .u64 (x3 : Int)] 29)) (g.seq g1)).heap[W.heap.size + 1]? = some (.cells #[.int .u64 0, .int .u64 0, .int .u64 0, .int .u64 0] 29 (0, 0)) := by
        rw [gr_heap _ _ (by simp), Below.heap_alloc _ _ _ (by simp)]
        have h := World.alloc_heap_new (W.alloc (.cells #[.string s, .int .i64 Z] 50)) (.cells #[.int .u64 0, .int .u64 0, .int .u64 0, .int .u64 0] 29)
        rwa [World.size_alloc] at h
      exact bodyPost_ret (results_s4_tmp rfl _ _ (W.heap.size + 1) _ _ _ _ _ rfl hcell) rfl ⟨rfl, gr_of_below (by (repeat' (first | (with_reducible exact Below.refl _ _) | (with_reducible refine belowGrU ?_ _) | (with_reducible refine belowAlloc ?_ _) | (with_reducible refine Below.setCell ?_ ?_ _) | (with_reducible refine Below.drew ?_) | (simp [go_sem]; done) | (simp [go_sem]; omega))))⟩

/-! ### what was read, in bytes -/
theorem numL_inj : ∀ a b : List UInt8, a.length = b.length → numL a = numL b → a = b
  | [], [], _, _ => rfl
  | x :: a, y :: b, hl, h => by
    simp only [numL] at h
    have hx := x.toNat_lt
    have hy := y.toNat_lt
    have h1 : x.toNat = y.toNat := by omega
    have h2 : numL a = numL b := by omega
    rw [numL_inj a b (by simpa using hl) h2, UInt8.toNat_inj.1 h1]
theorem extract_list (s : ByteArray) (i j : Nat) : (s.extract i j).data.toList = (s.data.toList.drop i).take (j - i) := Lib.extract_data s i j
theorem leS_num (s : ByteArray) (i : Nat) (h : i + 8 ≤ s.size) : leS (num s i 8 : Int) 8 = s.extract i (i + 8) := by
  refine ba_ext (numL_inj _ _ ?_ ?_)
  · rw [size_list, size_list, leS_size, ByteArray.size_extract]; omega
  · have hl := num_lt s i 8 h
    rw [numL_le, Nat.mod_eq_of_lt hl, extract_list, Nat.add_sub_cancel_left]
    rfl
theorem rs_nth (s : ByteArray) : ∀ k : Nat, k < 4 → (rs s 4).nth k = num s (8 * k) 8
  | 0, _ => rfl
  | 1, _ => rfl
  | 2, _ => rfl
  | 3, _ => rfl
theorem rs_ok (s : ByteArray) (h : 32 ≤ s.size) : (rs s 4).ok :=
  ⟨num_lt s 0 8 (by omega), num_lt s 8 8 (by omega), num_lt s 16 8 (by omega), num_lt s 24 8 (by omega)⟩
theorem bs_rs (s : ByteArray) (h : 32 ≤ s.size) : ∀ k : Nat, k ≤ 4 → bs (rs s 4) k = s.extract 0 (8 * k)
  | 0, _ => by refine ba_ext ?_; rw [extract_list]; rfl
  | k + 1, hk => by
    refine ba_ext ?_
    rw [bs, bs_rs s h k (by omega), rs_nth s k (by omega), leS_num s (8 * k) (by omega), cat_list, extract_list, extract_list, extract_list]
    rw [List.drop_zero, Nat.sub_zero, Nat.sub_zero, Nat.add_sub_cancel_left, Nat.mul_succ, List.take_add]
theorem BytesRead_any (s : ByteArray) (h : 32 ≤ s.size) : Pure Try.prog 16 #[(rs s 4).v] (.string (s.extract 0 32)) := by
  have c := BytesRef_any (rs s 4) (rs_ok s h)
  rwa [bs_rs s h 4 (by omega)] at c

end Go.Proofs.Ytnflakaphbjbhaa

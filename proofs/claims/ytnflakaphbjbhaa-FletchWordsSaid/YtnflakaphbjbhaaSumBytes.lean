/-
  fletch.Bytes and fletch.Read: a sum's bytes, and back.
-/
import Derived.Test.YtnflakaphbjbhaaMore
import Derived.Test.YtnflakaphbjbhaaLe
namespace Go.Proofs.Ytnflakaphbjbhaa
open Go.RowKit Go.Sort

def S4.nth (x : S4) : Nat → Nat
  | 0 => x.a
  | 1 => x.b
  | 2 => x.c
  | _ => x.d
/-- the bytes of the first k numbers -/
def bs (x : S4) : Nat → ByteArray
  | 0 => ⟨#[]⟩
  | k + 1 => bs x k ++ leS (x.nth k) 8
@[go_sem] theorem bs_size (x : S4) : ∀ k : Nat, (bs x k).size = 8 * k
  | 0 => rfl
  | k + 1 => by rw [bs, cat_size, bs_size x k, leS_size]; omega

theorem run_ix (w : World) (x : S4) (k : Nat) (hk : k < 4) : (Instr.index 29 (.agg #[.int .u64 (x.a : Int), .int .u64 (x.b : Int), .int .u64 (x.c : Int), .int .u64 (x.d : Int)]) (.int .i64 (k : Int))).run Try.prog w = .ok (.int .u64 (x.nth k : Int)) w := by
  have hi : ∃ i, Try.prog.info? 27 = some i := Option.isSome_iff_exists.1 (by kernel_rfl)
  obtain ⟨i, hi⟩ := hi
  have hc : Try.prog.cellsOf 27 = 1 := by kernel_rfl
  have hk' : Try.prog.plainKey 27 = true := by kernel_rfl
  have hp : (part 27 #[.int .u64 (x.a : Int), .int .u64 (x.b : Int), .int .u64 (x.c : Int), .int .u64 (x.d : Int)] k).run Try.prog w = .ok (.int .u64 (x.nth k : Int)) w := by
    refine run_part_plain w hk' ?_
    rcases (show k = 0 ∨ k = 1 ∨ k = 2 ∨ k = 3 by omega) with rfl | rfl | rfl | rfl <;> rfl
  simp [Instr.index, run_underlying Try.underlying29, asIntOf, run_sizeOf w hi, hc, hp]
  intro h; omega

theorem U64_le (n : Nat) : Pure Try.prog 24 #[.int .u64 (n : Int)] (.string (leS n 8)) := by
  intro w
  have c : Pure Try.prog 36 #[.int .u64 (n : Int), .int .i64 8] (.string (leS n 8)) := laid_any n 8 (by omega)
  go_enter Try.func24, Try.ntmps24
  go_wp2_with (go_at_call 36; with_reducible refine (c.at _).mono ?_; rintro e w' ⟨rfl, g, rfl⟩)
  go_ret
  exact Ret.mk rfl (by (repeat' (first | (with_reducible exact Below.refl _ _) | (with_reducible refine belowGrU ?_ _) | (with_reducible refine belowAlloc ?_ _) | (with_reducible refine Below.setCell ?_ ?_ _) | (with_reducible refine Below.drew ?_) | (simp [go_sem]; done) | (simp [go_sem]; omega))))

theorem Bytes_any (x : S4) : Pure Try.prog 14 #[x.v] (.string (bs x 4)) := by
  intro w
  have hix := fun W : World => run_ix W x
  simp only [S4.v, S4.cs]
  obtain ⟨x0, hx0⟩ : ∃ y : Int, (x.a : Int) = y := ⟨_, rfl⟩
  obtain ⟨x1, hx1⟩ : ∃ y : Int, (x.b : Int) = y := ⟨_, rfl⟩
  obtain ⟨x2, hx2⟩ : ∃ y : Int, (x.c : Int) = y := ⟨_, rfl⟩
  obtain ⟨x3, hx3⟩ : ∃ y : Int, (x.d : Int) = y := ⟨_, rfl⟩
  rw [hx0, hx1, hx2, hx3] at hix ⊢
  have HX := Lib.hid hix
  clear hix hx0 hx1 hx2 hx3
  go_enter Try.func14, Try.ntmps14
  go_wp2_with fail
  go_loopw [3, 7] (fun v i wr => ∃ k : Nat, k ≤ 4 ∧ i = .int .i64 k ∧ v = .string (bs x k) ∧ ∃ g : Gr, wr = gr (w.alloc (.cells #[.int .u64 x0, .int .u64 x1, .int .u64 x2, .int .u64 x3] 29)) g)
    (fun _ i _ => 4 - (intOf i).toNat)
  case atStart => exact ⟨0, by omega, rfl, rfl, ex_gr _⟩
  case round =>
    obtain ⟨k, hk, rfl, rfl, g, rfl⟩ := hrel
    by_cases hlt : k < 4
    · have hxk := fun W : World => HX.out W k hlt
      have c := U64_le (x.nth k)
      have hbs : bs x k ++ leS (x.nth k) 8 = bs x (k + 1) := rfl
      have HB := Lib.hid hbs
      clear hbs
      obtain ⟨y, hy⟩ : ∃ y : Int, ((x.nth k : Nat) : Int) = y := ⟨_, rfl⟩
      obtain ⟨L, hL⟩ : ∃ L : ByteArray, leS (x.nth k : Int) 8 = L := ⟨_, rfl⟩
      have hLs : L.size = 8 := by rw [← hL, leS_size]
      rw [hL] at c HB
      rw [hy] at c
      clear hL
      simp only [hy] at hxk
      clear hy
      go_wp2_with (go_at_call 24; with_reducible refine (c.at _).mono ?_; rintro e w' ⟨rfl, g1, rfl⟩)
      go_roundw
      case rel => exact ⟨k + 1, by omega, by go_num, by rw [HB.out], _, rfl⟩
      case measure => simp [intOf]; omega
    · obtain rfl : k = 4 := by omega
      go_wp2_with fail
      go_ret
      exact Ret.mk rfl (by (repeat' (first | (with_reducible exact Below.refl _ _) | (with_reducible refine belowGrU ?_ _) | (with_reducible refine belowAlloc ?_ _) | (with_reducible refine Below.setCell ?_ ?_ _) | (with_reducible refine Below.drew ?_) | (simp [go_sem]; done) | (simp [go_sem]; omega))))

/-- the four numbers that stand at the head of a text, k of them -/
def rs (s : ByteArray) (k : Nat) : S4 := ⟨if 0 < k then num s 0 8 else 0, if 1 < k then num s 8 8 else 0, if 2 < k then num s 16 8 else 0, if 3 < k then num s 24 8 else 0⟩
def rdW (W : World) (s : ByteArray) (k : Nat) (x : S4) : World :=
  ((W.alloc (.cells #[.string s, .int .i64 ((8 * k : Nat) : Int)] 50)).alloc (.cells zero4.cs 29)).alloc (.cells x.cs 29)
theorem rdW_next (W : World) (s : ByteArray) (k : Nat) (x : S4) (g g1 : Gr) :
    gr ((gr (rdW W s k x) g).setCell ⟨W.heap.size, 1, none⟩ (.int .i64 ((8 * k + 8 : Nat) : Int))) g1 = gr (rdW W s (k + 1) x) (g.seq g1) := by
  simp only [rdW, setCell_gr, setCell_past, setCell_at, gr_gr]
  rfl

set_option maxHeartbeats 1000000 in
theorem Read_yes (s : ByteArray) (h : 32 ≤ s.size) (hs : s.size < 4611686018427387904) (W : World) :
    Calls Try.prog 12 #[.pointer (some ⟨W.heap.size, 0, none⟩)] (W.alloc (.cells #[.string s, .int .i64 0] 50)) fun e w' => e = .returned (.tuple #[(rs s 4).v, .int .i64 0]) ∧ ∃ g : Gr, w' = gr W g := by
  go_enter Try.func12, Try.ntmps12
  go_wp2_with fail
  go_loopw [8] (fun i wr => ∃ k : Nat, k ≤ 4 ∧ i = .int .i64 k ∧ ∃ g : Gr, wr = gr (rdW W s k (rs s k)) g)
    (fun i _ => 4 - (intOf i).toNat)
  case atStart => exact ⟨0, by omega, rfl, ex_gr _⟩
  case round =>
    obtain ⟨k, hk, rfl, g, rfl⟩ := hrel
    have hR : Rd W.heap.size s (8 * k) (gr (rdW W s k (rs s k)) g) := by
      refine ⟨?_, ?_, ?_, ?_⟩
      · unfold rdW; exact inferInstance
      · simp [rdW, go_sem]
      · simp [rdW, go_sem]
      · simp [rdW, go_sem]
    have c0 : 8 * k + 8 ≤ s.size → Calls Try.prog 23 #[.pointer (some ⟨W.heap.size, 0, none⟩)] (gr (rdW W s k (rs s k)) g) fun e w' =>
        e = .returned (.tuple #[.int .u64 (num s (8 * k) 8 : Int), .int .i64 0]) ∧ ∃ g1 : Gr, w' = gr (rdW W s (k + 1) (rs s k)) g1 := fun h8 =>
      (U64_at h8 hs _ hR).mono fun e w' ⟨he, g1, hw⟩ => ⟨he, g.seq g1, by rw [hw, rdW_next]⟩
    clear hR
    obtain ⟨⟨x0, x1, x2, x3⟩, hX⟩ : ∃ x, rs s k = x := ⟨_, rfl⟩
    rw [hX] at c0 ⊢
    have HX := Lib.hid hX
    clear hX
    rcases (show k = 0 ∨ k = 1 ∨ k = 2 ∨ k = 3 ∨ k = 4 by omega) with rfl | rfl | rfl | rfl | rfl
    · have c := c0 (by omega)
      have e : rs s 1 = ⟨num s (8 * 0) 8, x1, x2, x3⟩ := by
        have e2 : rs s 1 = { rs s 0 with a := num s (8 * 0) 8 } := by simp [rs]
        rw [e2, HX.out]
      have HE := Lib.hid e
      have hm : rdW W s (0 + 1) ⟨x0, x1, x2, x3⟩ = ((W.alloc (.cells #[.string s, .int .i64 8] 50)).alloc (.cells #[.int .u64 0, .int .u64 0, .int .u64 0, .int .u64 0] 29)).alloc (.cells #[.int .u64 (x0 : Int), .int .u64 (x1 : Int), .int .u64 (x2 : Int), .int .u64 (x3 : Int)] 29) := rfl
      have HM := Lib.hid hm
      clear e c0 hm
      generalize num s (8 * 0) 8 = V at *
      go_wp2_with (go_at_call 23; with_reducible refine c.mono ?_; rintro e w' ⟨rfl, g1, rfl⟩; rw [HM.out])
      go_roundw
      case rel => exact ⟨1, by omega, rfl, g1, by rw [HE.out]; rfl⟩
      case measure => simp [intOf]
    · have c := c0 (by omega)
      have e : rs s 2 = ⟨x0, num s (8 * 1) 8, x2, x3⟩ := by
        have e2 : rs s 2 = { rs s 1 with b := num s (8 * 1) 8 } := by simp [rs]
        rw [e2, HX.out]
      have HE := Lib.hid e
      have hm : rdW W s (1 + 1) ⟨x0, x1, x2, x3⟩ = ((W.alloc (.cells #[.string s, .int .i64 16] 50)).alloc (.cells #[.int .u64 0, .int .u64 0, .int .u64 0, .int .u64 0] 29)).alloc (.cells #[.int .u64 (x0 : Int), .int .u64 (x1 : Int), .int .u64 (x2 : Int), .int .u64 (x3 : Int)] 29) := rfl
      have HM := Lib.hid hm
      clear e c0 hm
      generalize num s (8 * 1) 8 = V at *
      go_wp2_with (go_at_call 23; with_reducible refine c.mono ?_; rintro e w' ⟨rfl, g1, rfl⟩; rw [HM.out])
      go_roundw
      case rel => exact ⟨2, by omega, rfl, g1, by rw [HE.out]; rfl⟩
      case measure => simp [intOf]
    · have c := c0 (by omega)
      have e : rs s 3 = ⟨x0, x1, num s (8 * 2) 8, x3⟩ := by
        have e2 : rs s 3 = { rs s 2 with c := num s (8 * 2) 8 } := by simp [rs]
        rw [e2, HX.out]
      have HE := Lib.hid e
      have hm : rdW W s (2 + 1) ⟨x0, x1, x2, x3⟩ = ((W.alloc (.cells #[.string s, .int .i64 24] 50)).alloc (.cells #[.int .u64 0, .int .u64 0, .int .u64 0, .int .u64 0] 29)).alloc (.cells #[.int .u64 (x0 : Int), .int .u64 (x1 : Int), .int .u64 (x2 : Int), .int .u64 (x3 : Int)] 29) := rfl
      have HM := Lib.hid hm
      clear e c0 hm
      generalize num s (8 * 2) 8 = V at *
      go_wp2_with (go_at_call 23; with_reducible refine c.mono ?_; rintro e w' ⟨rfl, g1, rfl⟩; rw [HM.out])
      go_roundw
      case rel => exact ⟨3, by omega, rfl, g1, by rw [HE.out]; rfl⟩
      case measure => simp [intOf]
    · have c := c0 (by omega)
      have e : rs s 4 = ⟨x0, x1, x2, num s (8 * 3) 8⟩ := by
        have e2 : rs s 4 = { rs s 3 with d := num s (8 * 3) 8 } := by simp [rs]
        rw [e2, HX.out]
      have HE := Lib.hid e
      have hm : rdW W s (3 + 1) ⟨x0, x1, x2, x3⟩ = ((W.alloc (.cells #[.string s, .int .i64 32] 50)).alloc (.cells #[.int .u64 0, .int .u64 0, .int .u64 0, .int .u64 0] 29)).alloc (.cells #[.int .u64 (x0 : Int), .int .u64 (x1 : Int), .int .u64 (x2 : Int), .int .u64 (x3 : Int)] 29) := rfl
      have HM := Lib.hid hm
      clear e c0 hm
      generalize num s (8 * 3) 8 = V at *
      go_wp2_with (go_at_call 23; with_reducible refine c.mono ?_; rintro e w' ⟨rfl, g1, rfl⟩; rw [HM.out])
      go_roundw
      case rel => exact ⟨4, by omega, rfl, g1, by rw [HE.out]; rfl⟩
      case measure => simp [intOf]
    · clear c0
      have hm : rdW W s 4 ⟨x0, x1, x2, x3⟩ = ((W.alloc (.cells #[.string s, .int .i64 32] 50)).alloc (.cells #[.int .u64 0, .int .u64 0, .int .u64 0, .int .u64 0] 29)).alloc (.cells #[.int .u64 (x0 : Int), .int .u64 (x1 : Int), .int .u64 (x2 : Int), .int .u64 (x3 : Int)] 29) := rfl
      have HR : Hid ((rs s 4).v = .agg #[.int .u64 (x0 : Int), .int .u64 (x1 : Int), .int .u64 (x2 : Int), .int .u64 (x3 : Int)]) := by rw [HX.out]; rfl
      rw [hm]
      clear hm
      go_wp2_with fail
      have hcell : (gr (((W.alloc (.cells #[.string s, .int .i64 32] 50)).alloc (.cells #[.int .u64 (x0 : Int), .int .u64 (x1 : Int), .int .u64 (x2 : Int), .int .u64 (x3 : Int)] 29)).alloc (.cells #[.int .u64 (x0 : Int), .int .u64 (x1 : Int), .int .u64 (x2 : Int), .int .u64 (x3 : Int)] 29)) g).heap[W.heap.size + 1]? = some (.cells #[.int .u64 (x0 : Int), .int .u64 (x1 : Int), .int .u64 (x2 : Int), .int .u64 (x3 : Int)] 29 (0, 0)) := by
        rw [gr_heap _ _ (by simp), Below.heap_alloc _ _ _ (by simp)]
        have h := World.alloc_heap_new (W.alloc (.cells #[.string s, .int .i64 32] 50)) (.cells #[.int .u64 (x0 : Int), .int .u64 (x1 : Int), .int .u64 (x2 : Int), .int .u64 (x3 : Int)] 29)
        rwa [World.size_alloc] at h
      exact bodyPost_ret (results_s4_tmp rfl _ _ (W.heap.size + 1) _ _ _ _ _ rfl hcell) rfl ⟨by rw [HR.out]; rfl, gr_of_below (by (repeat' (first | (with_reducible exact Below.refl _ _) | (with_reducible refine belowGrU ?_ _) | (with_reducible refine belowAlloc ?_ _) | (with_reducible refine Below.setCell ?_ ?_ _) | (with_reducible refine Below.drew ?_) | (simp [go_sem]; done) | (simp [go_sem]; omega))))⟩

end Go.Proofs.Ytnflakaphbjbhaa

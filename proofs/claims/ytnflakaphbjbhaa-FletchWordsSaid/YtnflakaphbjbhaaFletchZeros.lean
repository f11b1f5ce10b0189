/-
  Zero words ahead of a text change nothing; the sum's bytes tell it. For every text, count and two sums.
-/
import Derived.Test.YtnflakaphbjbhaaSumBytes
import Derived.Test.YtnflakaphbjbhaaOpenSum
import Derived.ChangeMaps5
namespace Go.Proofs.Ytnflakaphbjbhaa
open Go.RowKit Go.Sort Go.ChangeShapes Go.WideShapes Go.ChangeAt Go.Joins Go.ChangeMaps

/-! ### the bytes tell the sum -/
theorem numL_le (X : Nat) : ∀ k : Nat, numL ((leS (X : Int) k).data.toList) = X % 256 ^ k
  | 0 => by simp [leS_list, leB, numL, Nat.mod_one]
  | k + 1 => by
    have ih := numL_le X k
    rw [leS_list] at ih ⊢
    rw [leB_succ, List.map_append, numL_append, ih, List.length_map, leB_len]
    have e : (byteN (X : Int) k).toNat = X / 256 ^ k % 256 := by
      have e2 : byteN (X : Int) k = ((X / 256 ^ k % 256 : Nat) : Int) := by
        have hp : (256 : Nat) ^ k = 2 ^ (8 * k) := by rw [show (256 : Nat) = 2 ^ 8 from rfl, ← Nat.pow_mul]
        unfold byteN
        rw [hp]
        simp
      rw [e2, Int.toNat_natCast]
    have e3 : (UInt8.ofNat (X / 256 ^ k % 256)).toNat = X / 256 ^ k % 256 := by
      rw [UInt8.toNat_ofNat']; exact Nat.mod_eq_of_lt (Nat.mod_lt _ (by decide))
    simp only [List.map_cons, List.map_nil, numL, e, e3, Nat.mul_zero, Nat.add_zero]
    rw [Nat.pow_succ, Nat.mod_mul]
theorem num_le (X : Nat) (hX : X < MM) : num (leS (X : Int) 8) 0 8 = X := by
  have h := numL_le X 8
  unfold num
  rw [List.drop_zero, List.take_of_length_le (by rw [size_list, leS_size]; omega), h]
  exact Nat.mod_eq_of_lt hX
theorem num_mid (p q r : ByteArray) : num (p ++ q ++ r) p.size q.size = num q 0 q.size := by
  rw [num_left _ _ _ _ (by rw [cat_size]; omega)]
  have := num_right p q 0 q.size
  rwa [Nat.add_zero] at this
theorem cat_assoc (a b c : ByteArray) : a ++ b ++ c = a ++ (b ++ c) := ba_ext (by simp [ByteArray.data_append])
theorem num_bs (x : S4) (s : ByteArray) : ∀ n k : Nat, k < n → x.nth k < MM → num (bs x n ++ s) (8 * k) 8 = x.nth k
  | 0, k, h, _ => by omega
  | n + 1, k, h, hx => by
    rw [bs]
    by_cases e : k < n
    · rw [cat_assoc]; exact num_bs x _ n k e hx
    · obtain rfl : k = n := by omega
      have h := num_mid (bs x k) (leS (x.nth k) 8) s
      rw [bs_size, leS_size] at h
      rw [h, num_le _ hx]
theorem rs_bs {x : S4} (hx : x.ok) (s : ByteArray) : rs (bs x 4 ++ s) 4 = x := by
  obtain ⟨a, b, c, d⟩ := x
  obtain ⟨h0, h1, h2, h3⟩ := hx
  have e0 := num_bs ⟨a, b, c, d⟩ s 4 0 (by omega) h0
  have e1 := num_bs ⟨a, b, c, d⟩ s 4 1 (by omega) h1
  have e2 := num_bs ⟨a, b, c, d⟩ s 4 2 (by omega) h2
  have e3 := num_bs ⟨a, b, c, d⟩ s 4 3 (by omega) h3
  simp only [S4.nth, Nat.mul_zero, Nat.mul_one, show 8 * 2 = 16 from rfl, show 8 * 3 = 24 from rfl] at e0 e1 e2 e3
  simp only [rs, e0, e1, e2, e3, S4.mk.injEq]
  simp
theorem bs_inj {x y : S4} (hx : x.ok) (hy : y.ok) (h : bs x 4 = bs y 4) : x = y := by
  have e := rs_bs hx ⟨#[]⟩
  rw [h, rs_bs hy] at e
  exact e.symm

/-! ### zero words -/
def zeros (m : Nat) : ByteArray := ⟨(List.replicate m (0 : UInt8)).toArray⟩
theorem zeros_list (m : Nat) : (zeros m).data.toList = List.replicate m 0 := by simp [zeros]
theorem zeros_size (m : Nat) : (zeros m).size = m := by rw [← size_list, zeros_list, List.length_replicate]
theorem numL_zeros : ∀ m : Nat, numL (List.replicate m 0) = 0
  | 0 => rfl
  | m + 1 => by rw [List.replicate_succ, numL, numL_zeros m]; rfl
theorem word_zeros (m k : Nat) : wordAt (zeros m) k = 0 := by
  unfold wordAt num
  rw [zeros_list, List.drop_replicate, List.take_replicate, numL_zeros]
theorem sums_zeros : ∀ ws : List Nat, (∀ w ∈ ws, w = 0) → sums zero4 ws = zero4
  | [], _ => rfl
  | w :: ws, h => by
    obtain rfl : w = 0 := h w (by simp)
    exact sums_zeros ws fun v hv => h v (by simp [hv])
theorem sum4_zeros (m : Nat) (hm : m % 4 = 0) (s : ByteArray) : sum4 (zeros m ++ s) = sum4 s := by
  have hz : (zeros m).size % 4 = 0 := by rw [zeros_size]; exact hm
  rw [sum4_cat hz]
  have e : sum4 (zeros m) = zero4 := by
    unfold sum4
    rw [pad4_id hz]
    refine sums_zeros _ fun w hw => ?_
    obtain ⟨k, _, rfl⟩ := List.mem_map.1 hw
    exact word_zeros m k
  rw [e]; rfl

/-- fresh zero bytes, and the text that they are -/
theorem made_zeros (M : Nat) (hM : M ≤ 200) : ∃ R : Array Value, (∀ (W : World) (z : Int), z = M → (Instr.makeSlice 25 (.int .i64 z) (.int .i64 z)).run Try.prog W = .ok (.slice (some ⟨W.heap.size, 0, none⟩) M M) (W.alloc (.cells R 5))) ∧
    (∀ W : World, (convert 25 9 (.slice (some ⟨W.heap.size, 0, none⟩) M M)).run Try.prog (W.alloc (.cells R 5)) = .ok (.string (zeros M)) (W.alloc (.cells R 5))) := by
  obtain ⟨i0, hi, hz0, hz1, hz2⟩ := info_parts Try.infoB
  refine ⟨madeCells (Value.int .u8 0).cells (M * 1), fun W z hz => ?_, fun W => ?_⟩
  · subst hz
    have := run_make (P := Try.prog) W 25 5 i0 _ Try.underlying25 hi hz0 .i64 .i64 M M (by omega) (by omega) (by rw [hz2]; omega) (by omega)
    rw [hz1] at this
    simpa using this
  · have h := run_convert_bytes_arg (P := Try.prog) (W.alloc (.cells (madeCells (Value.int .u8 0).cells (M * 1)) 5)) 25 5 Try.underlying25 Try.underlying5 W.heap.size 0 M M (List.replicate M 0) (by simp) ?_ 9 Try.underlying9
    · rw [h]
      congr 2
      refine ba_ext ?_
      rw [strOfNums_data, zeros_list, List.map_replicate]
      rfl
    · intro j hj
      have hg : (List.replicate M (0 : Int)).getD j 0 = 0 := by simp [List.getD_eq_getElem?_getD, List.getElem?_replicate]; split <;> rfl
      rw [hg, cell_at]
      simp [madeCells, Value.cells, hj, Nat.mod_one]

namespace FletchZeros

set_option maxRecDepth 20000 in
theorem walk (s : ByteArray) (hs : s.size ≤ 9223372036854775807) (n : Nat) (hn : n < 256) (x y : S4) (hx : x.ok) (hy : y.ok) :
    Pure Try.prog 6 #[.string s, .int .u8 (n : Int), x.v, y.v] (.bool true) := by
  intro w
  by_cases hl : s.size ≤ 3000
  · obtain ⟨M, hM⟩ : ∃ M, 4 * (n % 50) = M := ⟨_, rfl⟩
    have hM4 : M % 4 = 0 := by omega
    have hM1 : M ≤ 200 := by omega
    have c1 := Sum4_any (zeros M ++ s) (by rw [cat_size, zeros_size]; omega)
    rw [sum4_zeros M hM4] at c1
    have c2 := Sum4_any s (by omega)
    have b1 := Bytes_any x
    have b2 := Bytes_any y
    have r1 := Read_yes (bs x 4 ++ s) (by rw [cat_size, bs_size]; omega) (by rw [cat_size, bs_size]; omega)
    rw [rs_bs hx] at r1
    have hbq : ((bs x 4).toList == (bs y 4).toList) = decide (x = y) := by
      rw [ByteArray.toList_eq, ByteArray.toList_eq]
      by_cases e : x = y
      · simp [e]
      · have h2 : ¬ (bs x 4).data.toList = (bs y 4).data.toList := fun h => e (bs_inj hx hy (ba_ext h))
        simp only [e, decide_false, beq_eq_false_iff_ne, ne_eq]
        exact h2
    have hBX : (bs x 4).size = 32 := bs_size x 4
    have hBY : (bs y 4).size = 32 := bs_size y 4
    have hZZ := zeros_size M
    obtain ⟨⟨s0, s1, s2, s3⟩, hS⟩ : ∃ z, sum4 s = z := ⟨_, rfl⟩
    rw [hS] at c1 c2
    clear hS
    have q1 := fun W : World => run_eql_s4 W s0 s1 s2 s3 s0 s1 s2 s3
    have q2 := fun W : World => run_eql_s4 W x.a x.b x.c x.d x.a x.b x.c x.d
    have q3 := fun W : World => run_eql_s4 W x.a x.b x.c x.d y.a y.b y.c y.d
    have hxy : decide ((⟨x.a, x.b, x.c, x.d⟩ : S4) = ⟨y.a, y.b, y.c, y.d⟩) = decide (x = y) := rfl
    rw [hxy] at q3
    simp only [decide_true] at q1 q2
    clear hxy
    generalize decide (x = y) = β at hbq q3
    generalize bs x 4 = BX at *
    generalize bs y 4 = BY at *
    obtain ⟨R, hmk, hcv⟩ := made_zeros M (by omega)
    have hmk' := fun W : World => hmk W (4 * ((n : Int) % 50)) (by omega)
    clear hmk
    generalize zeros M = Z at c1 hZZ hcv
    clear hx hy
    obtain ⟨x0, x1, x2, x3⟩ := x
    obtain ⟨y0, y1, y2, y3⟩ := y
    simp only [S4.v, S4.cs] at c1 c2 b1 b2 r1 q2 q3 ⊢
    go_enter Try.func6, Try.ntmps6
    go_wp2_with (first | (go_at_call 8; with_reducible refine (awake_any.at _).mono ?_; rintro e w' ⟨rfl, g, rfl⟩) | (go_at_call 14; (first | (with_reducible refine (b1.at _).mono ?_)); rintro e w' ⟨rfl, g, rfl⟩) | (go_at_call 13; refine (New_at _ _).mono ?_; rintro e w' ⟨rfl, rfl⟩) | (go_at_call 12; refine (r1 _).mono ?_; rintro e w' ⟨rfl, g, rfl⟩))
    cases β
    all_goals (
      refine wp_region_gr (by kernel_rfl) (by kernel_rfl) ?_
      repeat (go_big_quiet_step (first | (with_reducible exact c1.inClass _ _) | (with_reducible exact c2.inClass _ _) | (with_reducible exact b1.inClass _ _) | (with_reducible exact b2.inClass _ _)))
      refine wpQuiet_nil ?_
      rintro _ ⟨g5, rfl⟩
      go_wp2_with fail
      go_ret
      exact Ret.mk rfl (by (repeat' (first | (with_reducible exact Below.refl _ _) | (with_reducible refine belowGrU ?_ _) | (with_reducible refine belowAlloc ?_ _) | (with_reducible refine Below.setCell ?_ ?_ _) | (with_reducible refine Below.drew ?_) | (simp [go_sem]; done) | (simp [go_sem]; omega)))))
  · simp only [S4.v, S4.cs]
    go_enter Try.func6, Try.ntmps6
    go_wp2_with (go_at_call 8; with_reducible refine (awake_any.at _).mono ?_; rintro e w' ⟨rfl, g, rfl⟩)
    all_goals (try (exfalso; omega))
    all_goals go_ret
    all_goals exact Ret.mk rfl (by (repeat' (first | (with_reducible exact Below.refl _ _) | (with_reducible refine belowGrU ?_ _) | (with_reducible refine belowAlloc ?_ _) | (with_reducible refine Below.setCell ?_ ?_ _) | (with_reducible refine Below.drew ?_) | (simp [go_sem]; done) | (simp [go_sem]; omega))))

theorem lawWalk : LawWalk 6 Try.f6.params := by
  intro H enc W base args ds p hval hA _ _
  rw [Try.params6] at hA hval
  obtain ⟨v0, v1, v2, v3, d0, d1, d2, d3, p0, p1, p2, p3, rfl, rfl, rfl, h0, h1, h2, h3⟩ := trodAll_four hA
  obtain ⟨s, rfl, rfl, rfl, hs⟩ := open_string Try.underlying9 (hval 0 9 v0 rfl rfl) h0
  obtain ⟨n, rfl, _, _, wn⟩ := open_int Try.underlying5 (hval 1 5 v1 rfl rfl) h1
  obtain ⟨x, hx, rfl⟩ := open_s4 (hval 2 29 v2 rfl rfl) h2
  obtain ⟨y, hy, rfl⟩ := open_s4 (hval 3 29 v3 rfl rfl) h3
  unfold maxLen at hs
  have hn : 0 ≤ n ∧ n ≤ 255 := by
    simp [Lit.wf, IntKind.min, IntKind.max, IntKind.signed, IntKind.bits] at wn
    omega
  obtain ⟨k, rfl⟩ := Int.eq_ofNat_of_zero_le hn.1
  exact walk s hs k (by omega) x y hx hy W

set_option maxRecDepth 100000 in
theorem holds : Rows.FletchZerosSaid :=
  OpenClaim.holds_of_wide 6 Try.f6 rfl rfl rfl rfl rfl rfl rfl ⟨rfl, rfl, rfl, rfl, rfl⟩ rfl rfl rfl rfl rfl (by kernel_rfl) Try.func6 (by kernel_rfl)
    (of_decide_eq_true (by kernel_rfl)) (by unfold Func.isWrapper; first | (rw [if_pos (by decide +kernel)]; kernel_rfl) | (rw [if_neg (by decide +kernel)]; exact ⟨rfl, rfl⟩))
    (fun os started H enc _ => law_lifted (s := Rows.fletchZerosSpec) started (by kernel_rfl) Try.func6 rfl rfl Try.underlying4 (by kernel_rfl)
      (fun ds h => by
        rw [Try.params6] at h
        match ds, h with
        | [d1, d2, d3, d4], _ => rfl)
      (ChangeSpec.witness6 (enc := enc) (C := Try.checked) false ⟨#[], #[.string ⟨#[]⟩, .int .u8 0, .agg #[.int .u64 0, .int .u64 0, .int .u64 0, .int .u64 0], .agg #[.int .u64 0, .int .u64 0, .int .u64 0, .int .u64 0]], []⟩ 8 (by kernel_rfl) (by kernel_rfl) (by kernel_rfl) (by kernel_rfl))
      lawWalk)
#print axioms holds

end FletchZeros
end Go.Proofs.Ytnflakaphbjbhaa

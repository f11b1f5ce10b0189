/-
  The document's own answers on numbers in bytes (polderref01): Number, Pad, Lay.
-/
import Derived.Test.YtnflakaphbjbhaaFletchZeros
namespace Go.Proofs.Ytnflakaphbjbhaa
open Go.RowKit Go.Sort

theorem num_all (s : ByteArray) : num s 0 s.size = numL s.data.toList := by
  unfold num
  rw [List.drop_zero, List.take_of_length_le (by rw [size_list]; omega)]
theorem numL_drop (s : ByteArray) (i : Nat) (h : i < s.size) : numL (s.data.toList.drop i) = (s[i]'h).toNat + 256 * numL (s.data.toList.drop (i + 1)) := by
  rw [List.drop_eq_getElem_cons (by rw [size_list]; exact h), numL]
  rfl

theorem Number_any (s : ByteArray) (hs : s.size ≤ 8) : Pure Try.prog 20 #[.string s] (.int .u64 (num s 0 s.size : Int)) := by
  intro w
  rw [num_all]
  go_enter Try.func20, Try.ntmps20
  go_wp2_with fail
  go_loopw [3, 4] (fun v i wr => ∃ j : Nat, j ≤ s.size ∧ i = .int .i64 ((s.size : Int) - 1 - j) ∧ v = .int .u64 (numL (s.data.toList.drop (s.size - j)) : Int) ∧ wr = w)
    (fun _ i _ => (intOf i + 1).toNat)
  case atStart =>
    refine ⟨0, Nat.zero_le _, by go_num, ?_, rfl⟩
    rw [Nat.sub_zero, List.drop_of_length_le (by rw [size_list]; omega)]
    rfl
  case round =>
    obtain ⟨j, hj, rfl, rfl, rfl⟩ := hrel
    by_cases hlt : j < s.size
    · have hd := numL_drop s (s.size - (j + 1)) (by omega)
      rw [show s.size - (j + 1) + 1 = s.size - j from by omega] at hd
      have hn := numL_lt (s.data.toList.drop (s.size - j))
      rw [List.length_drop, size_list, show s.size - (s.size - j) = j from by omega] at hn
      have hp : (256 : Nat) ^ (j + 1) ≤ 256 ^ 8 := Nat.pow_le_pow_right (by omega) (by omega)
      have h8 : (256 : Nat) ^ 8 = 18446744073709551616 := by decide
      rw [Nat.pow_succ, h8] at hp
      obtain ⟨B, hB⟩ : ∃ B : Nat, (s[s.size - (j + 1)]'(by omega)).toNat = B := ⟨_, rfl⟩
      have hB8 : B < 256 := by rw [← hB]; exact UInt8.toNat_lt _
      have hix : ∀ W : World, (Instr.index 9 (.string s) (.int .i64 ((s.size : Int) - 1 - (j : Int)))).run Try.prog W = .ok (.int .u8 (B : Int)) W := fun W => by
        rw [run_index_string (P := Try.prog) W _ s _ _ Try.underlying9, dif_pos (by omega)]
        have e : ((s.size : Int) - 1 - (j : Int)).toNat = s.size - (j + 1) := by omega
        simp only [e, hB]
      rw [hB] at hd
      obtain ⟨X, hX⟩ : ∃ X, numL (s.data.toList.drop (s.size - j)) = X := ⟨_, rfl⟩
      rw [hX] at hd hn ⊢
      clear h8
      generalize 256 ^ j = P at hn hp
      have hX8 : X * 256 + 256 ≤ 18446744073709551616 := by
        have h := Nat.le_trans (Nat.mul_le_mul_right 256 hn) hp
        rwa [Nat.succ_mul] at h
      have HD := Lib.hid hd
      clear hd hX hB hp hn
      go_wp2_with fail
      go_roundw
      case rel =>
        refine ⟨j + 1, hlt, by go_num, ?_, by first | rfl | trivial⟩
        rw [HD.out]
        congr 1
        omega
      case measure => simp [intOf]; omega
    · obtain rfl : j = s.size := by omega
      rw [Nat.sub_self, List.drop_zero]
      go_wp2_with fail
      go_ret
      exact Ret.mk rfl (by (repeat' (first | (with_reducible exact Below.refl _ _) | (with_reducible refine belowGrU ?_ _) | (with_reducible refine belowAlloc ?_ _) | (with_reducible refine Below.setCell ?_ ?_ _) | (with_reducible refine Below.drew ?_) | (simp [go_sem]; done) | (simp [go_sem]; omega))))

theorem zeros_succ (k : Nat) : zeros (k + 1) = zeros k ++ ⟨#[0]⟩ := by
  refine ba_ext ?_
  rw [cat_list, zeros_list, zeros_list, List.replicate_succ']
theorem pad4_zeros (s : ByteArray) : pad4 s = s ++ zeros (padN s) := by
  refine ba_ext ?_
  rw [pad4_list, cat_list, zeros_list]
  have h := Lib.repeatL_replicate 0 1 (padN s)
  rw [Nat.mul_one] at h
  rw [← h]; rfl

theorem PadRef_any (s : ByteArray) (hs : s.size < 4611686018427387900) : Pure Try.prog 18 #[.string s, .int .i64 4] (.string (pad4 s)) := by
  intro w
  go_enter Try.func18, Try.ntmps18
  go_wp2_with fail
  go_loopw [0] (fun v wr => ∃ (k : Nat) (p : ByteArray), k ≤ padN s ∧ p = s ++ zeros k ∧ v = .string p ∧ wr = w)
    (fun v _ => padN s - (match v with | .string p => p.size - s.size | _ => 0))
  case atStart => exact ⟨0, s, Nat.zero_le _, ba_ext (by rw [cat_list, zeros_list]; simp), rfl, rfl⟩
  case round =>
    obtain ⟨k, p, hk, hp, rfl, rfl⟩ := hrel
    have hps : p.size = s.size + k := by rw [hp, cat_size, zeros_size]
    have hlt4 := padN_lt s
    by_cases hlt : k < padN s
    · have hne : ¬ (p.size % 4 = 0) := by unfold padN at hlt; omega
      have hcat : p ++ ⟨#[0]⟩ = s ++ zeros (k + 1) := by rw [hp, zeros_succ, cat_assoc]
      have HC := Lib.hid hcat
      have HP := Lib.hid hp
      have HS := Lib.hid hps
      have hp2 : p.size < 4611686018427387904 := by omega
      clear hcat hp hps
      go_wp2_with fail
      all_goals (try (exfalso; omega))
      refine ⟨⟨k + 1, _, hlt, HC.out, rfl, trivial⟩, ?_⟩
      have e1 := HS.out
      have e2 : (p ++ ⟨#[0]⟩).size = p.size + 1 := by rw [cat_size]; rfl
      show padN s - ((p ++ ⟨#[0]⟩).size - s.size) < padN s - (p.size - s.size)
      omega
    · obtain rfl : k = padN s := by omega
      have hz : p.size % 4 = 0 := by rw [hps, padN]; omega
      rw [← pad4_zeros] at hp
      subst hp
      go_wp2_with fail
      all_goals (try (exfalso; omega))
      go_ret
      exact Ret.mk rfl (by (repeat' (first | (with_reducible exact Below.refl _ _) | (with_reducible refine belowGrU ?_ _) | (with_reducible refine belowAlloc ?_ _) | (with_reducible refine Below.setCell ?_ ?_ _) | (with_reducible refine Below.drew ?_) | (simp [go_sem]; done) | (simp [go_sem]; omega))))

theorem leS_succ (X : Nat) (k : Nat) : leS (X : Int) (k + 1) = leS (X : Int) k ++ strOfNums [((X / 256 ^ k % 256 : Nat) : Int)] := by
  refine ba_ext ?_
  have e2 : byteN (X : Int) k = ((X / 256 ^ k % 256 : Nat) : Int) := by
    have hp : (256 : Nat) ^ k = 2 ^ (8 * k) := by rw [show (256 : Nat) = 2 ^ 8 from rfl, ← Nat.pow_mul]
    unfold byteN
    rw [hp]
    simp
  rw [cat_list, leS_list, leS_list, strOfNums_data, leB_succ, List.map_append, e2]

theorem Lay_any (X : Nat) (hX : X < MM) (n : Nat) (hn : n ≤ 8) : Pure Try.prog 25 #[.int .u64 (X : Int), .int .i64 (n : Int)] (.string (leS X n)) := by
  intro w
  have hcv : ∀ (W : World) (B : Nat), (convert 25 9 (.slice (some ⟨W.heap.size, 0, none⟩) 1 1)).run Try.prog (W.alloc (.cells #[.int .u8 (B : Int)] 5)) = .ok (.string (strOfNums [(B : Int)])) (W.alloc (.cells #[.int .u8 (B : Int)] 5)) := fun W B => by
    refine run_convert_bytes_arg (P := Try.prog) (W.alloc (.cells #[.int .u8 (B : Int)] 5)) 25 5 Try.underlying25 Try.underlying5 W.heap.size 0 1 1 [(B : Int)] rfl ?_ 9 Try.underlying9
    intro j hj
    obtain rfl : j = 0 := by omega
    rw [cell_at]; rfl
  go_enter Try.func25, Try.ntmps25
  go_wp2_with fail
  go_loopw [0, 5, 6] (fun x v i wr => ∃ k : Nat, k ≤ n ∧ i = .int .i64 k ∧ x = .int .u64 ((X / 256 ^ k : Nat) : Int) ∧ v = .string (leS X k) ∧ ∃ g : Gr, wr = gr w g)
    (fun _ _ i _ => n - (intOf i).toNat)
  case atStart => exact ⟨0, Nat.zero_le _, rfl, by simp, rfl, ex_gr _⟩
  case round =>
    obtain ⟨k, hk, rfl, rfl, rfl, g, rfl⟩ := hrel
    by_cases hlt : k < n
    · have hs := leS_succ X k
      have hd : X / 256 ^ (k + 1) = X / 256 ^ k / 256 := by rw [Nat.pow_succ, Nat.div_div_eq_div_mul]
      have hle : X / 256 ^ k ≤ X := Nat.div_le_self _ _
      have hL : (leS (X : Int) k).size = k := leS_size _ _
      obtain ⟨Y, hY⟩ : ∃ Y, X / 256 ^ k = Y := ⟨_, rfl⟩
      rw [hY] at hs hd hle ⊢
      obtain ⟨L, hL2⟩ : ∃ L, leS (X : Int) k = L := ⟨_, rfl⟩
      rw [hL2] at hs hL ⊢
      obtain ⟨B, hB⟩ : ∃ B, Y % 256 = B := ⟨_, rfl⟩
      rw [hB] at hs
      obtain ⟨S, hS⟩ : ∃ S, strOfNums [(B : Int)] = S := ⟨_, rfl⟩
      have hS1 : S.size = 1 := by rw [← hS, strOfNums_size]; rfl
      have hcv2 := fun W : World => hcv W B
      rw [hS] at hs
      simp only [hS] at hcv2
      have HS := Lib.hid hs
      have HD := Lib.hid hd
      have hBi : ((Y : Int) % 256) = (B : Int) := by omega
      have hYm : Y < 18446744073709551616 := Nat.lt_of_le_of_lt hle hX
      clear hs hd hcv hL2 hS hY hle
      go_wp2_with fail
      refine ⟨⟨k + 1, hlt, by go_num, by rw [HD.out]; go_num, by rw [HS.out], ex_gr_alloc' _ _ _⟩, ?_⟩
      simp [intOf]; omega
    · obtain rfl : k = n := by omega
      go_wp2_with fail
      go_ret
      exact Ret.mk rfl (by (repeat' (first | (with_reducible exact Below.refl _ _) | (with_reducible refine belowGrU ?_ _) | (with_reducible refine belowAlloc ?_ _) | (with_reducible refine Below.setCell ?_ ?_ _) | (with_reducible refine Below.drew ?_) | (simp [go_sem]; done) | (simp [go_sem]; omega))))

theorem nil_cat (a : ByteArray) : (⟨#[]⟩ : ByteArray) ++ a = a := ba_ext (by rw [cat_list]; rfl)

theorem BytesRef_any (x : S4) (hx : x.ok) : Pure Try.prog 16 #[x.v] (.string (bs x 4)) := by
  intro w
  obtain ⟨a, b, c, d⟩ := x
  obtain ⟨ha, hb, hc, hd⟩ := hx
  have c0 : Pure Try.prog 25 #[.int .u64 (a : Int), .int .i64 8] (.string (leS a 8)) := Lay_any a ha 8 (by omega)
  have c1 : Pure Try.prog 25 #[.int .u64 (b : Int), .int .i64 8] (.string (leS b 8)) := Lay_any b hb 8 (by omega)
  have c2 : Pure Try.prog 25 #[.int .u64 (c : Int), .int .i64 8] (.string (leS c 8)) := Lay_any c hc 8 (by omega)
  have c3 : Pure Try.prog 25 #[.int .u64 (d : Int), .int .i64 8] (.string (leS d 8)) := Lay_any d hd 8 (by omega)
  have e : bs ⟨a, b, c, d⟩ 4 = leS a 8 ++ leS b 8 ++ leS c 8 ++ leS d 8 := by
    show (⟨#[]⟩ : ByteArray) ++ leS a 8 ++ leS b 8 ++ leS c 8 ++ leS d 8 = _
    rw [nil_cat]
  have s0 : (leS (a : Int) 8).size = 8 := leS_size _ _
  have s1 : (leS (b : Int) 8).size = 8 := leS_size _ _
  have s2 : (leS (c : Int) 8).size = 8 := leS_size _ _
  have s3 : (leS (d : Int) 8).size = 8 := leS_size _ _
  rw [e]
  clear e ha hb hc hd
  generalize leS (a : Int) 8 = A at *
  generalize leS (b : Int) 8 = B at *
  generalize leS (c : Int) 8 = C at *
  generalize leS (d : Int) 8 = D at *
  have t1 := cat_size A B
  have t2 := cat_size (A ++ B) C
  simp only [S4.v, S4.cs]
  go_enter Try.func16, Try.ntmps16
  go_wp2_with fail
  refine wp_region_gr (by kernel_rfl) (by kernel_rfl) ?_
  repeat (go_big_quiet_step (first | (with_reducible exact c0.inClass _ _) | (with_reducible exact c1.inClass _ _) | (with_reducible exact c2.inClass _ _) | (with_reducible exact c3.inClass _ _)))
  refine wpQuiet_nil ?_
  rintro _ ⟨g5, rfl⟩
  go_wp2_with fail
  go_ret
  exact Ret.mk rfl (by (repeat' (first | (with_reducible exact Below.refl _ _) | (with_reducible refine belowGrU ?_ _) | (with_reducible refine belowAlloc ?_ _) | (with_reducible refine Below.setCell ?_ ?_ _) | (with_reducible refine Below.drew ?_) | (simp [go_sem]; done) | (simp [go_sem]; omega))))

end Go.Proofs.Ytnflakaphbjbhaa

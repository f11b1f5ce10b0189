/-
  polderref25.Dec: a number in decimal.
-/
import Derived.Test.YtajionjffijffaaLineP
namespace Go.Proofs.Ytajionjffijffaa
open Go.RowKit Go.Sort

/-- what is still to be written of m -/
def decR (m : Nat) : List UInt8 := if m = 0 then [] else decN m
theorem decR_step (m : Nat) (h : m ≠ 0) : decR m = decR (m / 10) ++ [UInt8.ofNat (48 + m % 10)] := by
  unfold decR
  rw [if_neg h, decN]
  by_cases h10 : m < 10
  · rw [if_pos h10, if_pos (by omega), Nat.mod_eq_of_lt h10]
    rfl
  · rw [if_neg h10, if_neg (by omega)]
theorem decR_len (m : Nat) : (decR m).length ≤ m + 1 := by
  unfold decR
  split
  · simp
  · exact decN_len m

set_option maxRecDepth 20000 in
set_option maxHeartbeats 1000000 in
theorem Dec_any (n : Int) (h0 : -9007199254740992 ≤ n) (h1 : n ≤ 9007199254740992) : Pure Try.prog 12 #[.int .i64 n] (.string (ofL (decI n))) := by
  intro w
  by_cases hz : n = 0
  · subst hz
    have e : ofL (decI 0) = ⟨#[48]⟩ := by kernel_rfl
    rw [e]
    go_enter Try.func12, Try.ntmps12
    go_wp2_with fail
    go_ret
    exact Ret.mk rfl (by (repeat' (first | (with_reducible exact Below.refl _ _) | (with_reducible refine belowGrU ?_ _) | (with_reducible refine belowAlloc ?_ _) | (with_reducible refine Below.setCell ?_ ?_ _) | (with_reducible refine Below.drew ?_) | (simp [go_sem]; done) | (simp [go_sem]; omega))))
  · have hzb : (n == 0) = false := by simpa using hz
    have hcv := run_digit
    have hcv2 : ∀ (m : Nat) (W : World), (convert 75 9 (.slice (some ⟨W.heap.size, 0, none⟩) 1 1)).run Try.prog (W.alloc (.cells #[.int .u8 (48 + (m : Int) % 10)] 5)) = .ok (.string (ofL [UInt8.ofNat (48 + m % 10)])) (W.alloc (.cells #[.int .u8 (48 + (m : Int) % 10)] 5)) := fun m W => by
      have h := hcv W (48 + m % 10)
      have e : ((48 + m % 10 : Nat) : Int) = 48 + (m : Int) % 10 := by omega
      rw [e] at h
      exact h
    clear hcv
    obtain ⟨M, hM⟩ : ∃ M, n.natAbs = M := ⟨_, rfl⟩
    have hd0 : decR M ++ [] = decN M := by unfold decR; rw [if_neg (by omega), List.append_nil]
    have hdl : (decN M).length ≤ 18 := decN_len20 17 M (by have : (10 : Nat) ^ 18 = 1000000000000000000 := rfl; omega)
    by_cases hn : n < 0
    · have he : -n = (M : Int) := by omega
      have hE : ofL (decI n) = ⟨#[45]⟩ ++ ofL (decN M) := by
        refine ba_ext ?_
        rw [cat_list, ofL_list, ofL_list, decI, if_pos hn, hM]
        rfl
      rw [hE]
      clear hE
      go_enter Try.func12, Try.ntmps12
      go_wp2_with fail
      all_goals (try (exfalso; omega))
      go_loopw [0, 4] (fun v s wr => ∃ (m : Nat) (L : List UInt8), v = .int .i64 (m : Int) ∧ s = .string (ofL L) ∧ Hid (decR m ++ L = decN M) ∧ L.length ≤ 18 ∧ m ≤ M ∧ ∃ g : Gr, wr = gr w g) (fun v _ _ => (intOf v).toNat)
      case atStart => exact ⟨M, [], rfl, rfl, Lib.hid hd0, by simp, by omega, ex_gr _⟩
      case round =>
        obtain ⟨m, L, rfl, rfl, HD, hL, hm, g, rfl⟩ := hrel
        by_cases hlt : m = 0
        · subst hlt
          have e : L = decN M := by have h := HD.out; unfold decR at h; simpa using h
          subst e
          have hsz : (ofL (decN M)).size ≤ 18 := by rw [ofL_size]; exact hdl
          generalize ofL (decN M) = X at *
          go_wp2_with fail
          all_goals (try (exfalso; omega))
          go_ret
          exact Ret.mk rfl (by (repeat' (first | (with_reducible exact Below.refl _ _) | (with_reducible refine belowGrU ?_ _) | (with_reducible refine belowAlloc ?_ _) | (with_reducible refine Below.setCell ?_ ?_ _) | (with_reducible refine Below.drew ?_) | (simp [go_sem]; done) | (simp [go_sem]; omega))))
        · have hd := HD.out
          rw [decR_step m hlt, List.append_assoc] at hd
          have hc := hcv2 m
          have hcat : ofL [UInt8.ofNat (48 + m % 10)] ++ ofL L = ofL ([UInt8.ofNat (48 + m % 10)] ++ L) := ofL_cat _ _
          have hl2 : ([UInt8.ofNat (48 + m % 10)] ++ L).length ≤ 18 := by have := congrArg List.length hd; rw [List.length_append] at this; omega
          have hls : (ofL L).size ≤ 18 := by rw [ofL_size]; exact hL
          have hR : (ofL [UInt8.ofNat (48 + m % 10)]).size = 1 := rfl
          have HD2 := Lib.hid hd
          have hmp : (0 : Int) < (m : Int) := by omega
          generalize ofL [UInt8.ofNat (48 + m % 10)] = R at *
          generalize [UInt8.ofNat (48 + m % 10)] ++ L = L2 at *
          clear hd HD hcv2
          go_wp2_with fail
          all_goals (try (exfalso; omega))
          exact ⟨⟨m / 10, L2, by go_num, rfl, HD2, hl2, by omega, by first | exact ex_gr_alloc' _ _ _ | exact ⟨_, rfl⟩⟩, by simp [intOf]; omega⟩
    · have he : n = (M : Int) := by omega
      have hE : ofL (decI n) = ⟨#[]⟩ ++ ofL (decN M) := by
        refine ba_ext ?_
        rw [cat_list, ofL_list, ofL_list, decI, if_neg hn, hM]
        rfl
      rw [hE]
      clear hE
      go_enter Try.func12, Try.ntmps12
      go_wp2_with fail
      all_goals (try (exfalso; omega))
      go_loopw [0, 4] (fun v s wr => ∃ (m : Nat) (L : List UInt8), v = .int .i64 (m : Int) ∧ s = .string (ofL L) ∧ Hid (decR m ++ L = decN M) ∧ L.length ≤ 18 ∧ m ≤ M ∧ ∃ g : Gr, wr = gr w g) (fun v _ _ => (intOf v).toNat)
      case atStart => exact ⟨M, [], rfl, rfl, Lib.hid hd0, by simp, by omega, ex_gr _⟩
      case round =>
        obtain ⟨m, L, rfl, rfl, HD, hL, hm, g, rfl⟩ := hrel
        by_cases hlt : m = 0
        · subst hlt
          have e : L = decN M := by have h := HD.out; unfold decR at h; simpa using h
          subst e
          have hsz : (ofL (decN M)).size ≤ 18 := by rw [ofL_size]; exact hdl
          generalize ofL (decN M) = X at *
          go_wp2_with fail
          all_goals (try (exfalso; omega))
          go_ret
          exact Ret.mk rfl (by (repeat' (first | (with_reducible exact Below.refl _ _) | (with_reducible refine belowGrU ?_ _) | (with_reducible refine belowAlloc ?_ _) | (with_reducible refine Below.setCell ?_ ?_ _) | (with_reducible refine Below.drew ?_) | (simp [go_sem]; done) | (simp [go_sem]; omega))))
        · have hd := HD.out
          rw [decR_step m hlt, List.append_assoc] at hd
          have hc := hcv2 m
          have hcat : ofL [UInt8.ofNat (48 + m % 10)] ++ ofL L = ofL ([UInt8.ofNat (48 + m % 10)] ++ L) := ofL_cat _ _
          have hl2 : ([UInt8.ofNat (48 + m % 10)] ++ L).length ≤ 18 := by have := congrArg List.length hd; rw [List.length_append] at this; omega
          have hls : (ofL L).size ≤ 18 := by rw [ofL_size]; exact hL
          have hR : (ofL [UInt8.ofNat (48 + m % 10)]).size = 1 := rfl
          have HD2 := Lib.hid hd
          have hmp : (0 : Int) < (m : Int) := by omega
          generalize ofL [UInt8.ofNat (48 + m % 10)] = R at *
          generalize [UInt8.ofNat (48 + m % 10)] ++ L = L2 at *
          clear hd HD hcv2
          go_wp2_with fail
          all_goals (try (exfalso; omega))
          exact ⟨⟨m / 10, L2, by go_num, rfl, HD2, hl2, by omega, by first | exact ex_gr_alloc' _ _ _ | exact ⟨_, rfl⟩⟩, by simp [intOf]; omega⟩

end Go.Proofs.Ytajionjffijffaa

/-
  The first of a sum's numbers is the words' own sum: of texts in any order it is the same. For every two texts.
-/
import Derived.Test.YtnflakaphbjbhaaFletch
import Derived.ChangeMaps5
namespace Go.Proofs.Ytnflakaphbjbhaa
open Go.RowKit Go.Sort Go.ChangeShapes Go.WideShapes Go.ChangeAt Go.Joins Go.ChangeMaps
namespace FletchFirst

theorem walk (s t : ByteArray) (hs : s.size ≤ 9223372036854775807) (ht : t.size ≤ 9223372036854775807) : Pure Try.prog 4 #[.string s, .string t] (.bool true) := by
  intro w
  by_cases hl : s.size ≤ 3000 ∧ t.size ≤ 3000
  · obtain ⟨hl1, hl2⟩ := hl
    have cs := Pad_any s (by omega)
    have ct := Pad_any t (by omega)
    obtain ⟨S, hS⟩ : ∃ S, pad4 s = S := ⟨_, rfl⟩
    obtain ⟨T, hT⟩ : ∃ T, pad4 t = T := ⟨_, rfl⟩
    have hS1 : S.size ≤ 3003 := by rw [← hS, pad4_size]; have := padN_lt s; omega
    have hT1 : T.size ≤ 3003 := by rw [← hT, pad4_size]; have := padN_lt t; omega
    have hS4 : S.size % 4 = 0 := by rw [← hS]; exact pad4_mod s
    have hT4 : T.size % 4 = 0 := by rw [← hT]; exact pad4_mod t
    rw [hS] at cs
    rw [hT] at ct
    clear hS hT
    have c1 := Sum4_any (S ++ T) (by rw [cat_size]; omega)
    have c2 := Sum4_any (T ++ S) (by rw [cat_size]; omega)
    have c3 := Sum4_any S (by omega)
    have c4 := Sum4_any T (by omega)
    have o1 := (sum4_ok S).1
    have o2 := (sum4_ok T).1
    have w1 : (sum4 (S ++ T)).a = ((sum4 S).a + (sum4 T).a) % MM := by
      rw [sum4_a, sum4_a, sum4_a, pad4_cat hS4, words_cat hS4, pad4_id hS4, List.sum_append]
      rw [← Nat.add_mod]
    have w2 : (sum4 (T ++ S)).a = ((sum4 S).a + (sum4 T).a) % MM := by
      rw [sum4_a, sum4_a, sum4_a, pad4_cat hT4, words_cat hT4, pad4_id hT4, List.sum_append]
      rw [← Nat.add_mod, Nat.add_comm]
    have hx : sum4 (S ++ T) = sum4 (T ++ S) ∨ S ++ T ≠ T ++ S := by
      by_cases e : S ++ T = T ++ S
      · exact .inl (by rw [e])
      · exact .inr e
    obtain ⟨⟨a0, a1, a2, a3⟩, hA⟩ : ∃ x, sum4 (S ++ T) = x := ⟨_, rfl⟩
    obtain ⟨⟨b0, b1, b2, b3⟩, hB⟩ : ∃ x, sum4 (T ++ S) = x := ⟨_, rfl⟩
    obtain ⟨⟨p0, p1, p2, p3⟩, hP⟩ : ∃ x, sum4 S = x := ⟨_, rfl⟩
    obtain ⟨⟨q0, q1, q2, q3⟩, hQ⟩ : ∃ x, sum4 T = x := ⟨_, rfl⟩
    rw [hA] at c1 w1 hx
    rw [hB] at c2 w2 hx
    rw [hP] at c3 o1 w1 w2
    rw [hQ] at c4 o2 w1 w2
    simp only [S4.v, S4.cs] at c1 c2 c3 c4 w1 w2 o1 o2
    clear hA hB hP hQ
    obtain rfl : a0 = b0 := by rw [w1, w2]
    have hwr : IntKind.u64.wrap ((p0 : Int) + (q0 : Int)) = (a0 : Int) := by rw [wrap_add, w1]
    clear w1 w2
    have hq : ∀ W : World, (binOp .eql 29 (.agg #[.int .u64 (a0 : Int), .int .u64 (a1 : Int), .int .u64 (a2 : Int), .int .u64 (a3 : Int)]) (.agg #[.int .u64 (a0 : Int), .int .u64 (b1 : Int), .int .u64 (b2 : Int), .int .u64 (b3 : Int)])).run Try.prog W
        = .ok (.bool (decide ((⟨a0, a1, a2, a3⟩ : S4) = ⟨a0, b1, b2, b3⟩))) W := fun W => run_eql_s4 W _ _ _ _ _ _ _ _
    have hne : decide ((⟨a0, a1, a2, a3⟩ : S4) = ⟨a0, b1, b2, b3⟩) = true ∨ decide ((⟨a0, a1, a2, a3⟩ : S4) = ⟨a0, b1, b2, b3⟩) = false ∧ ((S ++ T).toList == (T ++ S).toList) = false := by
      rcases hx with h | h
      · exact .inl (by rw [h]; simp)
      · by_cases e : (⟨a0, a1, a2, a3⟩ : S4) = ⟨a0, b1, b2, b3⟩
        · exact .inl (by simp [e])
        · refine .inr ⟨by simp [e], ?_⟩
          rw [ByteArray.toList_eq, ByteArray.toList_eq]
          simp only [beq_eq_false_iff_ne, ne_eq]
          exact fun h' => h (ba_ext h')
    clear hx
    generalize decide ((⟨a0, a1, a2, a3⟩ : S4) = ⟨a0, b1, b2, b3⟩) = β at hq hne
    have hx0 := run_ix0
    rcases hne with rfl | ⟨rfl, hne⟩
    · go_enter Try.func4, Try.ntmps4
      go_wp2_with (first | (go_at_call 8; with_reducible refine (awake_any.at _).mono ?_; rintro e w' ⟨rfl, g, rfl⟩) | (go_at_call 9; (first | (with_reducible refine (cs.at _).mono ?_) | (with_reducible refine (ct.at _).mono ?_)); rintro e w' ⟨rfl, g, rfl⟩) | (go_at_call 10; (first | (with_reducible refine (c1.at _).mono ?_) | (with_reducible refine (c2.at _).mono ?_)); rintro e w' ⟨rfl, g, rfl⟩))
      refine wp_region_gr (by kernel_rfl) (by kernel_rfl) ?_
      repeat (go_big_quiet_step (first | (with_reducible exact c3.inClass _ _) | (with_reducible exact c4.inClass _ _)))
      refine wpQuiet_nil ?_
      rintro _ ⟨g5, rfl⟩
      go_wp2_with fail
      go_ret
      exact Ret.mk rfl (by (repeat' (first | (with_reducible exact Below.refl _ _) | (with_reducible refine belowGrU ?_ _) | (with_reducible refine belowAlloc ?_ _) | (with_reducible refine Below.setCell ?_ ?_ _) | (with_reducible refine Below.drew ?_) | (simp [go_sem]; done) | (simp [go_sem]; omega))))
    · go_enter Try.func4, Try.ntmps4
      go_wp2_with (first | (go_at_call 8; with_reducible refine (awake_any.at _).mono ?_; rintro e w' ⟨rfl, g, rfl⟩) | (go_at_call 9; (first | (with_reducible refine (cs.at _).mono ?_) | (with_reducible refine (ct.at _).mono ?_)); rintro e w' ⟨rfl, g, rfl⟩) | (go_at_call 10; (first | (with_reducible refine (c1.at _).mono ?_) | (with_reducible refine (c2.at _).mono ?_)); rintro e w' ⟨rfl, g, rfl⟩))
      refine wp_region_gr (by kernel_rfl) (by kernel_rfl) ?_
      repeat (go_big_quiet_step (first | (with_reducible exact c3.inClass _ _) | (with_reducible exact c4.inClass _ _)))
      refine wpQuiet_nil ?_
      rintro _ ⟨g5, rfl⟩
      go_wp2_with fail
      go_ret
      exact Ret.mk rfl (by (repeat' (first | (with_reducible exact Below.refl _ _) | (with_reducible refine belowGrU ?_ _) | (with_reducible refine belowAlloc ?_ _) | (with_reducible refine Below.setCell ?_ ?_ _) | (with_reducible refine Below.drew ?_) | (simp [go_sem]; done) | (simp [go_sem]; omega))))
  · go_enter Try.func4, Try.ntmps4
    go_wp2_with (go_at_call 8; with_reducible refine (awake_any.at _).mono ?_; rintro e w' ⟨rfl, g, rfl⟩)
    all_goals (try (exfalso; omega))
    all_goals go_ret
    all_goals exact Ret.mk rfl (by (repeat' (first | (with_reducible exact Below.refl _ _) | (with_reducible refine belowGrU ?_ _) | (with_reducible refine belowAlloc ?_ _) | (with_reducible refine Below.setCell ?_ ?_ _) | (with_reducible refine Below.drew ?_) | (simp [go_sem]; done) | (simp [go_sem]; omega))))

theorem lawWalk : LawWalk 4 Try.f4.params := by
  intro H enc W base args ds p hval hA _ _
  rw [Try.params4] at hA hval
  obtain ⟨v0, v1, d0, d1, p0, p1, rfl, rfl, rfl, h0, h1⟩ := trodAll_two hA
  obtain ⟨s, rfl, rfl, rfl, hs⟩ := open_string Try.underlying9 (hval 0 9 v0 rfl rfl) h0
  obtain ⟨t, rfl, rfl, rfl, ht⟩ := open_string Try.underlying9 (hval 1 9 v1 rfl rfl) h1
  unfold maxLen at hs ht
  exact walk s t hs ht W

set_option maxRecDepth 100000 in
theorem holds : Rows.FletchFirstSaid :=
  OpenClaim.holds_of_wide 4 Try.f4 rfl rfl rfl rfl rfl rfl rfl ⟨rfl, rfl, rfl, rfl, rfl⟩ rfl rfl rfl rfl rfl (by kernel_rfl) Try.func4 (by kernel_rfl)
    (of_decide_eq_true (by kernel_rfl)) (by unfold Func.isWrapper; first | (rw [if_pos (by decide +kernel)]; kernel_rfl) | (rw [if_neg (by decide +kernel)]; exact ⟨rfl, rfl⟩))
    (fun os started H enc _ => law_lifted (s := Rows.fletchFirstSpec) started (by kernel_rfl) Try.func4 rfl rfl Try.underlying4 (by kernel_rfl)
      (fun ds h => by
        rw [Try.params4] at h
        match ds, h with
        | [d1, d2], _ => rfl)
      (ChangeSpec.witness6 (enc := enc) (C := Try.checked) false ⟨#[], #[.string ⟨#[]⟩, .string ⟨#[]⟩], []⟩ 8 (by kernel_rfl) (by kernel_rfl) (by kernel_rfl) (by kernel_rfl))
      lawWalk)
#print axioms holds

end FletchFirst
end Go.Proofs.Ytnflakaphbjbhaa

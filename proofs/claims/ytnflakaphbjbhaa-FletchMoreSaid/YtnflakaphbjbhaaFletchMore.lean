/-
  The sum of two texts, one behind the other, is More's. For every two texts.
-/
import Derived.Test.YtnflakaphbjbhaaMore
import Derived.ChangeMaps5
namespace Go.Proofs.Ytnflakaphbjbhaa
open Go.RowKit Go.Sort Go.ChangeShapes Go.WideShapes Go.ChangeAt Go.Joins Go.ChangeMaps
namespace FletchMore

theorem walk (s t : ByteArray) (hs : s.size ≤ 9223372036854775807) (ht : t.size ≤ 9223372036854775807) : Pure Try.prog 5 #[.string s, .string t] (.bool true) := by
  intro w
  by_cases hl : s.size ≤ 3000 ∧ t.size ≤ 3000
  · obtain ⟨hl1, hl2⟩ := hl
    have cs := Pad_any s (by omega)
    have ct := Pad_any t (by omega)
    obtain ⟨S, hS⟩ : ∃ S, pad4 s = S := ⟨_, rfl⟩
    obtain ⟨T, hT⟩ : ∃ T, pad4 t = T := ⟨_, rfl⟩
    have hS1 : S.size ≤ 3003 := by rw [← hS, pad4_size]; have := padN_lt s; omega
    have hT1 : T.size ≤ 3003 := by rw [← hT, pad4_size]; have := padN_lt t; omega
    have hS4 : S.size % 4 = 0 := by rw [← hS]; exact pad4_mod s
    have hT4 : T.size % 4 = 0 := by rw [← hT]; exact pad4_mod t
    have e1 : sum4 (S ++ t) = sums (sum4 S) (wordsL T) := by rw [sum4_cat hS4, hT]
    have e2 : sum4 (S ++ T) = sums (sum4 S) (wordsL T) := by rw [sum4_cat hS4, pad4_id hT4]
    have hid : t.size % 4 = 0 → T = t := fun h => by rw [← hT, pad4_id h]
    rw [hS] at cs
    rw [hT] at ct
    clear hS hT
    have c1 := Sum4_any (S ++ t) (by rw [cat_size]; omega)
    have c2 := Sum4_any (S ++ T) (by rw [cat_size]; omega)
    have c3 := Sum4_any S (by omega)
    have m1 := More_yes (sum4 S) (sum4_ok S) T hT4 (by omega)
    rw [e1] at c1
    rw [e2] at c2
    obtain ⟨X, hX⟩ : ∃ X, sums (sum4 S) (wordsL T) = X := ⟨_, rfl⟩
    obtain ⟨Y, hY⟩ : ∃ Y, sum4 S = Y := ⟨_, rfl⟩
    have n1 := More_no Y t
    have n2 := hid
    rw [hX] at c1 c2 m1
    rw [hY] at c3 m1
    clear hX hY e1 e2
    obtain ⟨x0, x1, x2, x3⟩ := X
    obtain ⟨y0, y1, y2, y3⟩ := Y
    have q1 : ∀ W : World, (binOp .eql 29 (.agg #[.int .u64 (x0 : Int), .int .u64 (x1 : Int), .int .u64 (x2 : Int), .int .u64 (x3 : Int)]) (.agg #[.int .u64 (x0 : Int), .int .u64 (x1 : Int), .int .u64 (x2 : Int), .int .u64 (x3 : Int)])).run Try.prog W
        = .ok (.bool true) W := fun W => by rw [run_eql_s4]; simp
    have q2 : ∀ W : World, (binOp .neq 29 (.agg #[.int .u64 0, .int .u64 0, .int .u64 0, .int .u64 0]) (.agg #[.int .u64 0, .int .u64 0, .int .u64 0, .int .u64 0])).run Try.prog W
        = .ok (.bool false) W := fun W => run_neq_s4 W 0 0 0 0 0 0 0 0
    simp only [S4.v, S4.cs] at c1 c2 c3 m1
    by_cases h4 : t.size % 4 = 0
    · obtain rfl := hid h4
      clear hid n1 n2
      go_enter Try.func5, Try.ntmps5
      go_wp2_with (first | (go_at_call 8; with_reducible refine (awake_any.at _).mono ?_; rintro e w' ⟨rfl, g, rfl⟩) | (go_at_call 9; (first | (with_reducible refine (cs.at _).mono ?_) | (with_reducible refine (ct.at _).mono ?_)); rintro e w' ⟨rfl, g, rfl⟩) | (go_at_call 10; (first | (with_reducible refine (c3.at _).mono ?_)); rintro e w' ⟨rfl, g, rfl⟩) | (go_at_call 11; (first | (with_reducible refine (m1.at _).mono ?_)); rintro e w' ⟨rfl, g, rfl⟩))
      all_goals (try (exfalso; omega))
      refine wp_region_gr (by kernel_rfl) (by kernel_rfl) ?_
      repeat (go_big_quiet_step (first | (with_reducible exact c1.inClass _ _)))
      refine wpQuiet_nil ?_
      rintro _ ⟨g5, rfl⟩
      go_wp2_with fail
      go_ret
      exact Ret.mk rfl (by (repeat' (first | (with_reducible exact Below.refl _ _) | (with_reducible refine belowGrU ?_ _) | (with_reducible refine belowAlloc ?_ _) | (with_reducible refine Below.setCell ?_ ?_ _) | (with_reducible refine Below.drew ?_) | (simp [go_sem]; done) | (simp [go_sem]; omega))))
    · have n3 := n1 h4 (by omega)
      clear n1 n2 hid
      simp only [S4.v, S4.cs, zero4] at n3
      go_enter Try.func5, Try.ntmps5
      go_wp2_with (first | (go_at_call 8; with_reducible refine (awake_any.at _).mono ?_; rintro e w' ⟨rfl, g, rfl⟩) | (go_at_call 9; (first | (with_reducible refine (cs.at _).mono ?_) | (with_reducible refine (ct.at _).mono ?_)); rintro e w' ⟨rfl, g, rfl⟩) | (go_at_call 10; (first | (with_reducible refine (c3.at _).mono ?_)); rintro e w' ⟨rfl, g, rfl⟩) | (go_at_call 11; (first | (with_reducible refine (m1.at _).mono ?_) | (with_reducible refine (n3.at _).mono ?_)); rintro e w' ⟨rfl, g, rfl⟩))
      all_goals (try (exfalso; omega))
      refine wp_region_gr (by kernel_rfl) (by kernel_rfl) ?_
      repeat (go_big_quiet_step (first | (with_reducible exact c1.inClass _ _) | (with_reducible exact c2.inClass _ _)))
      refine wpQuiet_nil ?_
      rintro _ ⟨g5, rfl⟩
      go_wp2_with fail
      go_ret
      exact Ret.mk rfl (by (repeat' (first | (with_reducible exact Below.refl _ _) | (with_reducible refine belowGrU ?_ _) | (with_reducible refine belowAlloc ?_ _) | (with_reducible refine Below.setCell ?_ ?_ _) | (with_reducible refine Below.drew ?_) | (simp [go_sem]; done) | (simp [go_sem]; omega))))
  · go_enter Try.func5, Try.ntmps5
    go_wp2_with (go_at_call 8; with_reducible refine (awake_any.at _).mono ?_; rintro e w' ⟨rfl, g, rfl⟩)
    all_goals (try (exfalso; omega))
    all_goals go_ret
    all_goals exact Ret.mk rfl (by (repeat' (first | (with_reducible exact Below.refl _ _) | (with_reducible refine belowGrU ?_ _) | (with_reducible refine belowAlloc ?_ _) | (with_reducible refine Below.setCell ?_ ?_ _) | (with_reducible refine Below.drew ?_) | (simp [go_sem]; done) | (simp [go_sem]; omega))))

theorem lawWalk : LawWalk 5 Try.f5.params := by
  intro H enc W base args ds p hval hA _ _
  rw [Try.params5] at hA hval
  obtain ⟨v0, v1, d0, d1, p0, p1, rfl, rfl, rfl, h0, h1⟩ := trodAll_two hA
  obtain ⟨s, rfl, rfl, rfl, hs⟩ := open_string Try.underlying9 (hval 0 9 v0 rfl rfl) h0
  obtain ⟨t, rfl, rfl, rfl, ht⟩ := open_string Try.underlying9 (hval 1 9 v1 rfl rfl) h1
  unfold maxLen at hs ht
  exact walk s t hs ht W

set_option maxRecDepth 100000 in
theorem holds : Rows.FletchMoreSaid :=
  OpenClaim.holds_of_wide 5 Try.f5 rfl rfl rfl rfl rfl rfl rfl ⟨rfl, rfl, rfl, rfl, rfl⟩ rfl rfl rfl rfl rfl (by kernel_rfl) Try.func5 (by kernel_rfl)
    (of_decide_eq_true (by kernel_rfl)) (by unfold Func.isWrapper; first | (rw [if_pos (by decide +kernel)]; kernel_rfl) | (rw [if_neg (by decide +kernel)]; exact ⟨rfl, rfl⟩))
    (fun os started H enc _ => law_lifted (s := Rows.fletchMoreSpec) started (by kernel_rfl) Try.func5 rfl rfl Try.underlying4 (by kernel_rfl)
      (fun ds h => by
        rw [Try.params5] at h
        match ds, h with
        | [d1, d2], _ => rfl)
      (ChangeSpec.witness6 (enc := enc) (C := Try.checked) false ⟨#[], #[.string ⟨#[]⟩, .string ⟨#[]⟩], []⟩ 8 (by kernel_rfl) (by kernel_rfl) (by kernel_rfl) (by kernel_rfl))
      lawWalk)
#print axioms holds

end FletchMore
end Go.Proofs.Ytnflakaphbjbhaa

/-
  What is read is, without its notes, what is written of it; what is not read has nothing, and a place that is none or right. For every text.
-/
import Derived.Test.YtajionjffijffaaOnlyP
import Derived.Test.YtajionjffijffaaAwake
import Derived.Test.YtajionjffijffaaRow
namespace Go.Proofs.Ytajionjffijffaa
open Go.RowKit Go.Sort Go.ChangeShapes Go.WideShapes Go.ChangeAt Go.Joins Go.ChangeMaps

theorem endS_err {s : ScS} {n : Int} (h : (endS s n).2.2.2 ≠ 0) : (endS s n).1 = noSc := by
  unfold endS at h ⊢
  split
  · rfl
  · rename_i hg
    rw [if_neg hg] at h
    split
    · rfl
    · rename_i hr
      rw [if_neg hr] at h
      exact absurd rfl h
theorem parseL_err : ∀ (ls : List (List UInt8)) (s : ScS) (n : Int), (parseL s n ls).2.2.2 ≠ 0 → (parseL s n ls).1 = noSc
  | [], s, n, h => endS_err h
  | x :: ls, s, n, h => by
    rw [parseL] at h ⊢
    split
    · rename_i hn
      rw [if_pos hn] at h
      exact parseL_err ls s _ h
    · rename_i hn
      rw [if_neg hn] at h
      simp only at h ⊢
      split
      · rfl
      · rename_i he
        rw [if_neg he] at h
        split
        · rename_i hd
          rw [if_pos hd] at h
          exact parseL_err ls _ _ h
        · rfl
theorem parseS_err (t : ByteArray) (h : (parseS t).2.2.2 ≠ 0) : (parseS t).1 = noSc := by
  unfold parseS at h ⊢
  split
  · rfl
  · rename_i hs
    rw [if_neg hs] at h
    exact parseL_err _ _ _ h
theorem parseS_place (t : ByteArray) (ht : t.size ≤ 6000) : 0 ≤ (parseS t).2.1 ∧ 0 ≤ (parseS t).2.2.1 := by
  rcases near_of t ht with ⟨h1, h2⟩ | ⟨_, k, h1, _, _, h2, _⟩
  · omega
  · omega

namespace ScriptOnly

set_option maxRecDepth 100000 in
set_option maxHeartbeats 4000000 in
theorem walk (t : ByteArray) (ht : t.size ≤ 9223372036854775807) : Pure Try.prog 7 #[.string t] (.bool true) := by
  intro w
  by_cases hl : 6000 < t.size
  · have h1 : 6000 < (t.size : Int) := by omega
    go_enter Try.func7, Try.ntmps7
    go_wp2_with (go_at_call 8; with_reducible refine (awake_any.at _).mono ?_; rintro e w' ⟨rfl, g, rfl⟩)
    all_goals (try (exfalso; omega))
    all_goals go_ret
    all_goals exact Ret.mk rfl (by (repeat' (first | (with_reducible exact Below.refl _ _) | (with_reducible refine belowGrU ?_ _) | (with_reducible refine belowAlloc ?_ _) | (with_reducible refine Below.setCell ?_ ?_ _) | (with_reducible refine Below.drew ?_) | (simp [go_sem]; done) | (simp [go_sem]; omega))))
  · have cP := fun W : World => Parse_at t (by omega) W
    have hpl := parseS_place t (by omega)
    have her := parseS_err t
    have cN := Notes_any t (by omega)
    obtain ⟨⟨⟨gs, secs, xs⟩, ln, cl, er⟩, hT⟩ : ∃ T, parseS t = T := ⟨_, rfl⟩
    have hon := only_plain t _ _ _ _ hT
    rw [hT] at cP hpl her
    simp only at cP hpl her hon
    clear hT
    by_cases he : er = 0
    · subst he
      obtain ⟨rfl, rfl, hr, hw⟩ := hon rfl
      rw [hw] at cN
      obtain ⟨U, hU⟩ : ∃ U, ofL (writeB gs secs xs) = U := ⟨_, rfl⟩
      rw [hU] at cN
      have cW := fun (W : World) (vG vL : Value) (hG : Rd W 2 gs.length vG (flatG gs)) (hL : Rd W 5 xs.length vL (flatA xs)) => Write_at W vG vL secs gs xs _ _ hG hL hr
      rw [hU] at cW
      clear hw hU her hpl hon
      go_enter Try.func7, Try.ntmps7
      go_wp2_with (first
        | (go_at_call 8; with_reducible refine (awake_any.at _).mono ?_; rintro e w' ⟨rfl, g, rfl⟩)
        | (go_at_call 9; refine (cP _).mono ?_; rintro e W1 ⟨vG1, vL1, rfl, hG1, hL1, hbel1⟩; obtain ⟨adG1, capG1, rfl⟩ := ownsRow_len hG1; obtain ⟨adL1, capL1, rfl⟩ := ownsRow_len hL1; obtain ⟨g5, rfl⟩ := gr_of_below hbel1; rw [gr_gr] at hG1 hL1)
        | (go_at_call 17; refine (Calls.at (cW _ _ _ ((Rd.of_own hG1).grow (bel1' _ _)) ((Rd.of_own hL1).grow (bel1' _ _)))).mono ?_; rintro e w' ⟨rfl, g6, rfl⟩)
        | (go_at_call 13; with_reducible refine (cN.at _).mono ?_; rintro e w' ⟨rfl, g7, rfl⟩))
      all_goals (try (exfalso; omega))
      all_goals go_ret
      all_goals exact Ret.mk (by simp) (by (repeat' (first | (with_reducible exact Below.refl _ _) | (with_reducible refine belowGrU ?_ _) | (with_reducible refine belowAlloc ?_ _) | (with_reducible refine Below.setCell ?_ ?_ _) | (with_reducible refine Below.drew ?_) | (simp [go_sem]; done) | (simp [go_sem]; omega))))
    · have h0 := her he
      injection h0 with h1 h2 h3
      subst h1 h2 h3
      have he1 : (er == 0) = false := by simpa using he
      have he2 : (er != 0) = true := by simpa using he
      have hp1 := hpl.1
      have hp2 := hpl.2
      clear her hpl hon
      go_enter Try.func7, Try.ntmps7
      go_wp2_with (first
        | (go_at_call 8; with_reducible refine (awake_any.at _).mono ?_; rintro e w' ⟨rfl, g, rfl⟩)
        | (go_at_call 9; refine (cP _).mono ?_; rintro e W1 ⟨vG1, vL1, rfl, hG1, hL1, hbel1⟩; obtain ⟨adG1, capG1, rfl⟩ := ownsRow_len hG1; obtain ⟨adL1, capL1, rfl⟩ := ownsRow_len hL1; obtain ⟨g5, rfl⟩ := gr_of_below hbel1))
      all_goals (try (exfalso; omega))
      all_goals go_ret
      all_goals exact Ret.mk (by simp; try omega) (by (repeat' (first | (with_reducible exact Below.refl _ _) | (with_reducible refine belowGrU ?_ _) | (with_reducible refine belowAlloc ?_ _) | (with_reducible refine Below.setCell ?_ ?_ _) | (with_reducible refine Below.drew ?_) | (simp [go_sem]; done) | (simp [go_sem]; omega))))

set_option maxRecDepth 100000 in
theorem lawWalk : LawWalk 7 Try.f7.params := by
  intro H enc W base args ds p hval hA _ _
  rw [Try.params7] at hA hval
  obtain ⟨v0, d0, rfl, rfl, h0⟩ := trodAll_one hA
  obtain ⟨s, rfl, rfl, rfl, hs⟩ := open_string Try.underlying9 (hval 0 9 v0 rfl rfl) h0
  unfold maxLen at hs
  exact walk s hs W

set_option maxRecDepth 100000 in
theorem holds : Rows.ScriptOnlySaid :=
  OpenClaim.holds_of_wide 7 Try.f7 rfl rfl rfl rfl rfl rfl rfl ⟨rfl, rfl, rfl, rfl, rfl⟩ rfl rfl rfl rfl rfl (by kernel_rfl) Try.func7 (by kernel_rfl)
    (of_decide_eq_true (by kernel_rfl)) (by unfold Func.isWrapper; first | (rw [if_pos (by decide +kernel)]; kernel_rfl) | (rw [if_neg (by decide +kernel)]; exact ⟨rfl, rfl⟩))
    (fun os started H enc _ => law_lifted (s := Rows.scriptOnlySpec) started (by kernel_rfl) Try.func7 rfl rfl Try.underlying4 (by kernel_rfl)
      (fun ds h => by
        rw [Try.params7] at h
        match ds, h with
        | [d1], _ => rfl)
      (ChangeSpec.witness6 (enc := enc) (C := Try.checked) false ⟨#[], #[.string ⟨#[]⟩], []⟩ 8 (by kernel_rfl) (by kernel_rfl) (by kernel_rfl) (by kernel_rfl))
      lawWalk)
#print axioms holds

end ScriptOnly
end Go.Proofs.Ytajionjffijffaa

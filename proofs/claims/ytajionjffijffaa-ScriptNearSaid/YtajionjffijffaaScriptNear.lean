/-
  The place of an error is within the text, or right behind it. For every text.
-/
import Derived.Test.YtajionjffijffaaNear
import Derived.Test.YtajionjffijffaaRow
namespace Go.Proofs.Ytajionjffijffaa
open Go.RowKit Go.Sort Go.ChangeShapes Go.WideShapes Go.ChangeAt Go.Joins Go.ChangeMaps
namespace ScriptNear

set_option maxRecDepth 100000 in
theorem lawWalk : LawWalk 3 Try.f3.params := by
  intro H enc W base args ds p hval hA _ _
  rw [Try.params3] at hA hval
  obtain ⟨v0, d0, rfl, rfl, h0⟩ := trodAll_one hA
  obtain ⟨s, rfl, rfl, rfl, hs⟩ := open_string Try.underlying9 (hval 0 9 v0 rfl rfl) h0
  unfold maxLen at hs
  exact near_walk s hs W

set_option maxRecDepth 100000 in
theorem holds : Rows.ScriptNearSaid :=
  OpenClaim.holds_of_wide 3 Try.f3 rfl rfl rfl rfl rfl rfl rfl ⟨rfl, rfl, rfl, rfl, rfl⟩ rfl rfl rfl rfl rfl (by kernel_rfl) Try.func3 (by kernel_rfl)
    (of_decide_eq_true (by kernel_rfl)) (by unfold Func.isWrapper; first | (rw [if_pos (by decide +kernel)]; kernel_rfl) | (rw [if_neg (by decide +kernel)]; exact ⟨rfl, rfl⟩))
    (fun os started H enc _ => law_lifted (s := Rows.scriptNearSpec) started (by kernel_rfl) Try.func3 rfl rfl Try.underlying4 (by kernel_rfl)
      (fun ds h => by
        rw [Try.params3] at h
        match ds, h with
        | [d1], _ => rfl)
      (ChangeSpec.witness6 (enc := enc) (C := Try.checked) false ⟨#[], #[.string ⟨#[]⟩], []⟩ 8 (by kernel_rfl) (by kernel_rfl) (by kernel_rfl) (by kernel_rfl))
      lawWalk)
#print axioms holds

end ScriptNear
end Go.Proofs.Ytajionjffijffaa

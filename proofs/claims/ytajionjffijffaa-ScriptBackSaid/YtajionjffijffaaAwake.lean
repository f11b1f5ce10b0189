/-
  polderlaw25.awake: the document's example, read.
-/
import Derived.Test.YtajionjffijffaaParse
namespace Go.Proofs.Ytajionjffijffaa
open Go.RowKit Go.Sort

def text0 : ByteArray := ⟨#[112, 111, 111, 108, 32, 52, 48, 32, 109, 50, 32, 112, 51, 10, 115, 121, 110, 99, 10]⟩
set_option maxRecDepth 100000 in
theorem parse0 : parseS text0 = (⟨[(0, 2), (1, 3)], 40, [⟨⟨#[115, 121, 110, 99]⟩, 0, 0, 0, 0⟩]⟩, 0, 0, 0) := by
  kernel_rfl

theorem index_group0 (g cap : Nat) : ∀ W : World, (Instr.indexAt 23 (.slice (some ⟨g, 0, none⟩) 2 cap) (.int .i64 1)).run Try.prog W = .ok (.pointer (some ⟨g, 2, none⟩)) W := fun W => by
  have e : (⟨g, 0, none⟩ : Addr).add (1 * 2) = ⟨g, 2, none⟩ := by unfold Addr.add; split <;> simp_all
  have e2 : (⟨g, 0, none⟩ : Addr).add 2 = ⟨g, 2, none⟩ := e
  simp [Instr.indexAt, asIntOf, run_underlying Try.underlying23, e2]
theorem index_step0 (g cap : Nat) : ∀ W : World, (Instr.indexAt 26 (.slice (some ⟨g, 0, none⟩) 1 cap) (.int .i64 0)).run Try.prog W = .ok (.pointer (some ⟨g, 0, none⟩)) W := fun W => by
  have e : (⟨g, 0, none⟩ : Addr).add 0 = ⟨g, 0, none⟩ := by unfold Addr.add; split <;> simp_all
  simp [Instr.indexAt, asIntOf, run_underlying Try.underlying26, e]

theorem own_some {W : World} {B : Nat} {e : TypeId} {sz : Nat} {v : Value} {n : Nat} {xs : List Value} (h : W.ownsRow B e sz v (n + 1) xs) :
    ∃ g cap, v = .slice (some ⟨g, 0, none⟩) (n + 1) cap ∧ g < W.heap.size ∧ ∀ j u, xs[j]? = some u → W.cell? ⟨g, j, none⟩ = some u := by
  rcases h.2 with ⟨_, h0⟩ | ⟨g, cap, cur, rfl, _, hgb, _⟩
  · omega
  · exact ⟨g, cap, rfl, (Array.getElem?_eq_some_iff.1 hgb).1, fun j u hu => ownsRow_cell h (g := g) rfl hu⟩

set_option maxRecDepth 100000 in
set_option maxHeartbeats 2000000 in
theorem awake_any : Pure Try.prog 8 #[] (.bool true) := by
  intro w
  have cP := fun W : World => Parse_at text0 (by rw [show text0.size = 19 from rfl]; omega) W
  rw [parse0] at cP
  simp only [List.length_cons, List.length_nil, Nat.zero_add] at cP
  go_enter Try.func8, Try.ntmps8
  go_wp2_with (go_at_call 9; refine (cP _).mono ?_; rintro e W' ⟨vG, vL, rfl, hG, hL, hbel⟩; obtain ⟨gG, capG, rfl, oG, cG⟩ := own_some hG; obtain ⟨gL, capL, rfl, oL, cL⟩ := own_some hL; haveI : Old gG W' := ⟨oG⟩; haveI : Old gL W' := ⟨oL⟩; have cG2 := cG 2 _ rfl; have cG3 := cG 3 _ rfl; have cL0 := cL 0 _ rfl; have cL1 := cL 1 _ rfl; have cL2 := cL 2 _ rfl; have cL3 := cL 3 _ rfl; have cL4 := cL 4 _ rfl; have ixG := index_group0 gG capG; have ixL := index_step0 gL capL; clear hG hL cG cL)
  go_ret
  exact Ret.mk rfl (Below.alloc hbel hbel.size _)

end Go.Proofs.Ytajionjffijffaa

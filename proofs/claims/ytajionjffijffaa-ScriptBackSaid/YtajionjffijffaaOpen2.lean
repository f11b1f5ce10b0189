/-
  A slice of structs of two ints that comes in: its elements' cells.
-/
import Derived.Test.YtajionjffijffaaGr
import Derived.ProofKit
import Derived.OpenShut
import Derived.Lib.SmallJoins
import Derived.Deep.Slices
namespace Go.Proofs.Ytajionjffijffaa
open Go.ChangeShapes Go.WideShapes Go.RowKit Go.Joins Go.Deep

theorem cells2 {W : World} {a : Addr} {cs : List Value} (h : W.cells? 0 a 2 = some cs) : ∃ c0 c1, cs = [c0, c1] ∧ W.cell? a = some c0 ∧ W.cell? (a.add 1) = some c1 := by
  unfold World.cells? at h
  simp only [Nat.zero_le, if_true] at h
  have e : List.range 2 = [0, 1] := rfl
  rw [e] at h
  cases h0 : W.cell? (a.add 0) with
  | none => simp [h0] at h
  | some c0 =>
    cases h1 : W.cell? (a.add 1) with
    | none => simp [h0, h1] at h
    | some c1 =>
      simp [h0, h1] at h
      exact ⟨c0, c1, h.symm, by simpa [Addr.add] using h0, rfl⟩

theorem trod_sl2 {P : Program} {t e ti : TypeId} {f0 f1 : Field} (ht : P.underlying t = some (.slice e)) (he : P.underlying e = some (.struct #[f0, f1])) (hC : P.cellsOf e = 2)
    (hi : P.underlying ti = some (.int .i64)) (hCi : P.cellsOf ti = 1) (t0 : f0.type = ti) (t1 : f1.type = ti) (o0 : f0.offset = 0) (o1 : f1.offset = 1)
    {H : Type} {enc : TypeId × Value → H} {W : World} {v : Value} {fuel : Nat} {x : DataW H × List MemPlace}
    (hf : DataW.trod enc P W 0 (fun _ => true) true fuel t [v] = some x) :
    ∃ (ad : Option Addr) (blk off len cap : Nat) (x y : Nat → Int), v = .slice ad len cap ∧ len ≤ maxLen ∧ (∀ k, k < len → ad = some ⟨blk, off, none⟩ ∧ blk < W.heap.size) ∧
      (∀ k, k < len → W.cell? ⟨blk, off + k * 2, none⟩ = some (.int .i64 (x k))) ∧ (∀ k, k < len → W.cell? ⟨blk, off + k * 2 + 1, none⟩ = some (.int .i64 (y k))) := by
  rcases open_slice ht hf with ⟨hcs, hx⟩ | ⟨a, len, cap, m, n, D, Pl, hcs, _, hl, hm, hmm, hx, hel⟩
  · simp at hcs
    subst hcs
    exact ⟨none, 0, 0, 0, 0, fun _ => 0, fun _ => 0, rfl, Nat.zero_le _, fun k hk => by omega, fun k hk => by omega, fun k hk => by omega⟩
  · simp at hcs
    subst hcs
    simp only [if_true] at hmm
    have each : ∀ i, i < len → ∃ p q : Int, W.cell? (a.add (i * 2)) = some (.int .i64 p) ∧ W.cell? ((a.add (i * 2)).add 1) = some (.int .i64 q) := by
      intro i hi2
      obtain ⟨cs, hc, hd⟩ := hel i (by omega)
      rw [hC] at hc
      obtain ⟨c0, c1, rfl, h0, h1⟩ := cells2 hc
      obtain ⟨y0, y1, n', _, _, k0, k1⟩ := trod_struct2 he hd
      rw [t0, hCi, o0] at k0
      rw [t1, hCi, o1] at k1
      simp at k0 k1
      obtain ⟨p, e0, _, _⟩ := DataW.trod_int hi k0
      obtain ⟨q, e1, _, _⟩ := DataW.trod_int hi k1
      simp at e0 e1
      exact ⟨p, q, by rw [h0, e0], by rw [h1, e1]⟩
    by_cases hp : 0 < len
    · obtain ⟨b, off, spot⟩ := a
      have hspot : spot = none := by
        obtain ⟨p, q, h0, _⟩ := each 0 hp
        simpa [Addr.add] using World.cell?_spot h0
      subst hspot
      have hb : b < W.heap.size := by
        obtain ⟨p, q, h0, _⟩ := each 0 hp
        simpa [Addr.add] using World.block_lt_of_cell? _ _ h0
      refine ⟨_, b, off, len, cap, fun k => if h : k < len then Classical.choose (each k h) else 0, fun k => if h : k < len then Classical.choose (Classical.choose_spec (each k h)) else 0, rfl, by omega, fun k hk => ⟨rfl, hb⟩, fun k hk => ?_, fun k hk => ?_⟩
      · have := (Classical.choose_spec (Classical.choose_spec (each k hk))).1
        simp only [hk, dif_pos]
        rw [← Go.WideShapes.add_plain]
        exact this
      · have := (Classical.choose_spec (Classical.choose_spec (each k hk))).2
        simp only [hk, dif_pos]
        rw [← Go.WideShapes.add_plain, ← Go.WideShapes.add_plain]
        exact this
    · exact ⟨_, 0, 0, len, cap, fun _ => 0, fun _ => 0, rfl, by omega, fun k hk => by omega, fun k hk => by omega, fun k hk => by omega⟩

theorem open_sl2 {P : Program} {t e ti : TypeId} {f0 f1 : Field} (ht : P.underlying t = some (.slice e)) (he : P.underlying e = some (.struct #[f0, f1])) (hC : P.cellsOf e = 2)
    (hi : P.underlying ti = some (.int .i64)) (hCi : P.cellsOf ti = 1) (t0 : f0.type = ti) (t1 : f1.type = ti) (o0 : f0.offset = 0) (o1 : f1.offset = 1)
    {H : Type} {enc : TypeId × Value → H} {W : World} {base : Nat} {v : Value} {d : DataW H} {ps : List MemPlace}
    (hv : Value.okWide P W .any base t v) (h : DataW.Trod enc P W 0 (fun _ => true) true t v d ps) :
    ∃ (ad : Option Addr) (blk off len cap : Nat) (x y : Nat → Int), v = .slice ad len cap ∧ len ≤ maxLen ∧ (∀ k, k < len → ad = some ⟨blk, off, none⟩ ∧ blk < W.heap.size) ∧
      (∀ k, k < len → W.cell? ⟨blk, off + k * 2, none⟩ = some (.int .i64 (x k))) ∧ (∀ k, k < len → W.cell? ⟨blk, off + k * 2 + 1, none⟩ = some (.int .i64 (y k))) := by
  obtain ⟨a0, len, cap, rfl⟩ := okWide_slice ht hv
  obtain ⟨fuel, hf⟩ := h
  exact trod_sl2 ht he hC hi hCi t0 t1 o0 o1 (by simpa [Value.cells] using hf)

end Go.Proofs.Ytajionjffijffaa

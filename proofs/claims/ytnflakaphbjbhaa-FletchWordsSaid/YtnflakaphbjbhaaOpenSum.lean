/-
  A sum that comes in: four unsigned numbers.
-/
import Derived.Test.YtnflakaphbjbhaaFletch
namespace Go.Proofs.Ytnflakaphbjbhaa
open Go.RowKit Go.ChangeShapes Go.WideShapes Go.ChangeAt Go.Joins

theorem nat_u64 {a : Int} (h : (Lit.int .u64 a).wf = true) : ∃ n : Nat, a = n ∧ n < MM := by
  have h2 : 0 ≤ a ∧ a ≤ 18446744073709551615 := by
    simp [Lit.wf, IntKind.min, IntKind.max, IntKind.signed, IntKind.bits] at h
    omega
  exact ⟨a.toNat, by omega, by show a.toNat < 18446744073709551616; omega⟩

theorem open_s4 {H : Type} {enc : TypeId × Value → H} {W : World} {base : Nat} {v : Value} {d : DataW H} {ps : List MemPlace}
    (hv : Value.okWide Try.prog W .any base 29 v) (h : DataW.Trod enc Try.prog W 0 (fun _ => true) true 29 v d ps) :
    ∃ x : S4, x.ok ∧ v = x.v := by
  have hc : Try.prog.cellsOf 27 = 1 := by kernel_rfl
  have hC : Try.prog.cellsOf 29 = 4 := by kernel_rfl
  simp only [Value.okWide, Try.underlying29] at hv
  obtain ⟨cs, rfl, h2, _⟩ := hv
  rw [hC] at h2
  obtain ⟨fuel, hf⟩ := h
  cases fuel with
  | zero => simp [DataW.trod] at hf
  | succ m =>
    rw [DataW.trod_step] at hf
    unfold DataW.trodStep at hf
    simp only [Try.underlying29, Value.cells] at hf
    rw [hC, hc] at hf
    obtain ⟨l⟩ := cs
    have hl : l.length = 4 := by simpa using h2
    match l, hl with
    | [v0, v1, v2, v3], _ =>
      simp only [List.length_cons, List.length_nil, Nat.zero_add, Nat.reduceAdd, if_true] at hf
      simp only [Option.map_eq_some_iff] at hf
      obtain ⟨ys, hy, _⟩ := hf
      rw [show List.range 4 = [0, 1, 2, 3] from rfl] at hy
      simp only [List.mapM_cons, List.mapM_nil, bind, Option.bind_eq_some_iff, pure] at hy
      obtain ⟨a0, t0, _, ⟨a1, t1, _, ⟨a2, t2, _, ⟨a3, t3, _⟩, _⟩, _⟩, _⟩ := hy
      obtain ⟨n0, e0, _, w0⟩ := DataW.trod_int Try.underlying27 t0
      obtain ⟨n1, e1, _, w1⟩ := DataW.trod_int Try.underlying27 t1
      obtain ⟨n2, e2, _, w2⟩ := DataW.trod_int Try.underlying27 t2
      obtain ⟨n3, e3, _, w3⟩ := DataW.trod_int Try.underlying27 t3
      simp at e0 e1 e2 e3
      obtain ⟨m0, rfl, l0⟩ := nat_u64 w0
      obtain ⟨m1, rfl, l1⟩ := nat_u64 w1
      obtain ⟨m2, rfl, l2⟩ := nat_u64 w2
      obtain ⟨m3, rfl, l3⟩ := nat_u64 w3
      exact ⟨⟨m0, m1, m2, m3⟩, ⟨l0, l1, l2, l3⟩, by rw [e0, e1, e2, e3]; rfl⟩

end Go.Proofs.Ytnflakaphbjbhaa

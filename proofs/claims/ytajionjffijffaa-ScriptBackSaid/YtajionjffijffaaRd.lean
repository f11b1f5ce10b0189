/-
  Slices that are read, wherever they lie; what serves the copying of a script's acts.
-/
import Derived.Test.YtajionjffijffaaParse
import Derived.Test.YtajionjffijffaaReg2
namespace Go.Proofs.Ytajionjffijffaa
open Go.RowKit Go.Sort

/-- a slice that is read: its elements' cells, wherever it lies -/
structure RdAt (W : World) (sz n : Nat) (xs : List Value) (ad : Option Addr) (blk off : Nat) : Prop where
  len : xs.length = n * sz
  addr : n ≠ 0 → ad = some ⟨blk, off, none⟩
  lt : n ≠ 0 → blk < W.heap.size
  cell : ∀ j u, xs[j]? = some u → W.cell? ⟨blk, off + j, none⟩ = some u
def Rd (W : World) (sz n : Nat) (v : Value) (xs : List Value) : Prop := ∃ ad blk off cap, v = .slice ad n cap ∧ RdAt W sz n xs ad blk off
theorem RdAt.keep {W W' : World} {sz n : Nat} {xs : List Value} {ad : Option Addr} {blk off : Nat} (h : RdAt W sz n xs ad blk off) (hz : W.heap.size ≤ W'.heap.size) (hk : blk < W.heap.size → W'.heap[blk]? = W.heap[blk]?) : RdAt W' sz n xs ad blk off := by
  refine ⟨h.len, h.addr, fun hn => Nat.lt_of_lt_of_le (h.lt hn) hz, fun j u hu => ?_⟩
  have hn : n ≠ 0 := fun e => by
    subst e
    have := h.len
    rw [Nat.zero_mul] at this
    rw [List.length_eq_zero_iff.1 this] at hu
    cases hu
  rw [World.cell?_of_block (hk (h.lt hn))]
  exact h.cell j u hu
theorem RdAt.grow {W W' : World} {sz n : Nat} {xs : List Value} {ad : Option Addr} {blk off : Nat} (h : RdAt W sz n xs ad blk off) (hb : Below W.heap.size W W') : RdAt W' sz n xs ad blk off := h.keep hb.size (fun hl => hb.block _ hl)
theorem Rd.grow {W W' : World} {sz n : Nat} {v : Value} {xs : List Value} (h : Rd W sz n v xs) (hb : Below W.heap.size W W') : Rd W' sz n v xs := by
  obtain ⟨ad, blk, off, cap, rfl, h⟩ := h
  exact ⟨ad, blk, off, cap, rfl, h.grow hb⟩
theorem Rd.of_own {W : World} {B : Nat} {e : TypeId} {sz n : Nat} {v : Value} {xs : List Value} (h : W.ownsRow B e sz v n xs) : Rd W sz n v xs := by
  rcases h.2 with ⟨rfl, rfl⟩ | ⟨g, cap, cur, rfl, hb, hg, hrest⟩
  · refine ⟨none, 0, 0, 0, rfl, h.1, fun e => absurd rfl e, fun e => absurd rfl e, fun j u hu => ?_⟩
    have := h.1
    rw [Nat.zero_mul] at this
    rw [List.length_eq_zero_iff.1 this] at hu
    cases hu
  · exact ⟨some ⟨g, 0, none⟩, g, 0, cap, rfl, h.1, fun _ => rfl, fun _ => (Array.getElem?_eq_some_iff.1 hg).1, fun j u hu => by rw [Nat.zero_add]; exact ownsRow_cell h (g := g) rfl hu⟩
theorem add_at (blk off k : Nat) : (⟨blk, off, none⟩ : Addr).add k = ⟨blk, off + k, none⟩ := by unfold Addr.add; split <;> simp_all
/-- an act's cells -/
theorem RdAt.act {W : World} {xs : List Act5} {n : Nat} {ad : Option Addr} {blk off : Nat} (h : RdAt W 5 n (flatA xs) ad blk off) {k : Nat} (hk : k < xs.length) :
    W.cell? ⟨blk, off + k * 5, none⟩ = some (.string (xs[k]).word) ∧ W.cell? ⟨blk, off + k * 5 + 1, none⟩ = some (.int .i64 (xs[k]).n0) ∧ W.cell? ⟨blk, off + k * 5 + 2, none⟩ = some (.int .i64 (xs[k]).n1) ∧
    W.cell? ⟨blk, off + k * 5 + 3, none⟩ = some (.int .i64 (xs[k]).n2) ∧ W.cell? ⟨blk, off + k * 5 + 4, none⟩ = some (.int .i64 (xs[k]).n3) := by
  obtain ⟨f0, f1, f2, f3, f4⟩ := flatA_at xs k hk
  exact ⟨h.cell _ _ f0, h.cell _ _ f1, h.cell _ _ f2, h.cell _ _ f3, h.cell _ _ f4⟩
theorem flatA_n {xs : List Act5} {n : Nat} (h : (flatA xs).length = n * 5) : n = xs.length := by rw [flatA_len] at h; omega

theorem wpListIn_append_run {P : Program} {n : Nat} {ops : Array Oper} {rest : List Oper} {o : Oper} {a : Act} {Q : Exit → Act → World → Prop} {w : World} (hgd : o.guard = none) (d s : Operand) (t t' : TypeId)
    (ho : o.op = .call { callee := .builtin .append, args := #[d, s], argTypes := #[t, t'] }) (v u : Value) (hd : a.eval d = v) (hs : a.eval s = u) {v' : Value} {w' : World}
    (hr : (Builtin.append_ #[t, t'] o.type #[v, u]).run P w = .ok v' w') (h : wpListIn Fence.wide n P ops Q rest (a.put o.dst v') w') : wpListIn Fence.wide n P ops Q (o :: rest) a w := by
  unfold wpListIn
  rw [if_pos (by simp [Region.wanted, hgd])]
  refine ⟨fun _ _ => trivial, ?_⟩
  show o.uponIn Fence.wide n P a _ Q ((o.semAt none a.eval).run P w)
  rw [Oper.semAt_none]
  unfold execOp
  simp only [ho, resolve, invoke, builtin, Sem.run_bind, Sem.run_pure, Result.andThen_ok, List.map_toArray, List.map_cons, List.map_nil, hd, hs, hr]
  exact h

theorem flag_self {listed : Array Bool} {k : Nat} (h : k < listed.size) : flag (listed.setIfInBounds k true) k := by
  unfold flag
  rw [Array.getD_eq_getD_getElem?, Array.getElem?_setIfInBounds]
  simp [h]

def isRowT (T : TypeId) (W : World) (B k : Nat) : Prop := B ≤ k ∧ ∃ cur fr, W.heap[k]? = some (.cells cur T fr)
theorem startP (a : Act) {C : Value → Value → Value → Value → Value → Value → Value → Value → Value → Value → Value → Value → Value → Value → Value → Value → Value → Value → Prop} (h : ∀ s15 s16 s17 s18 s19 s20 s21 s22 s23 s24 s25 s26 s27 s28 s29 s30 s31 s32, C s15 s16 s17 s18 s19 s20 s21 s22 s23 s24 s25 s26 s27 s28 s29 s30 s31 s32) : ∃ s15 s16 s17 s18 s19 s20 s21 s22 s23 s24 s25 s26 s27 s28 s29 s30 s31 s32 : Value, a = ((((((((((((((((((a.put (some 15) s15).put (some 16) s16).put (some 17) s17).put (some 18) s18).put (some 19) s19).put (some 20) s20).put (some 21) s21).put (some 22) s22).put (some 23) s23).put (some 24) s24).put (some 25) s25).put (some 26) s26).put (some 27) s27).put (some 28) s28).put (some 29) s29).put (some 30) s30).put (some 31) s31).put (some 32) s32) ∧ C s15 s16 s17 s18 s19 s20 s21 s22 s23 s24 s25 s26 s27 s28 s29 s30 s31 s32 :=
  ⟨a.tmps.getD 15 undef, a.tmps.getD 16 undef, a.tmps.getD 17 undef, a.tmps.getD 18 undef, a.tmps.getD 19 undef, a.tmps.getD 20 undef, a.tmps.getD 21 undef, a.tmps.getD 22 undef, a.tmps.getD 23 undef, a.tmps.getD 24 undef, a.tmps.getD 25 undef, a.tmps.getD 26 undef, a.tmps.getD 27 undef, a.tmps.getD 28 undef, a.tmps.getD 29 undef, a.tmps.getD 30 undef, a.tmps.getD 31 undef, a.tmps.getD 32 undef, by simp only [put_self], h _ _ _ _ _ _ _ _ _ _ _ _ _ _ _ _ _ _⟩

end Go.Proofs.Ytajionjffijffaa

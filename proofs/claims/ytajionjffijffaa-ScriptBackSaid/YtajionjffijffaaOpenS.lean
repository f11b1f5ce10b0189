/-
  A script that comes in: its rows' cells.
-/
import Derived.Test.YtajionjffijffaaRightR
import Derived.Test.YtajionjffijffaaOpen2
import Derived.Test.YtajionjffijffaaChecked
namespace Go.Proofs.Ytajionjffijffaa
open Go.RowKit Go.Sort Go.ChangeShapes Go.WideShapes Go.Joins Go.Deep

theorem rd_of_acts {W : World} {blk : Nat} : ∀ (xs : List Act5) (off : Nat), (∀ k (hk : k < xs.length), W.cell? ⟨blk, off + k * 5, none⟩ = some (.string (xs[k]).word) ∧ W.cell? ⟨blk, off + k * 5 + 1, none⟩ = some (.int .i64 (xs[k]).n0) ∧ W.cell? ⟨blk, off + k * 5 + 2, none⟩ = some (.int .i64 (xs[k]).n1) ∧
    W.cell? ⟨blk, off + k * 5 + 3, none⟩ = some (.int .i64 (xs[k]).n2) ∧ W.cell? ⟨blk, off + k * 5 + 4, none⟩ = some (.int .i64 (xs[k]).n3)) → ∀ j u, (flatA xs)[j]? = some u → W.cell? ⟨blk, off + j, none⟩ = some u
  | [], _, _, j, u, hu => by simp [flatA] at hu
  | x :: xs, off, h, j, u, hu => by
    obtain ⟨h0, h1, h2, h3, h4⟩ := h 0 (by simp)
    simp only [Nat.zero_mul, Nat.add_zero, List.getElem_cons_zero] at h0 h1 h2 h3 h4
    rcases (show j = 0 ∨ j = 1 ∨ j = 2 ∨ j = 3 ∨ j = 4 ∨ 5 ≤ j by omega) with rfl | rfl | rfl | rfl | rfl | hj
    · simp [flatA] at hu; subst hu; exact h0
    · simp [flatA] at hu; subst hu; exact h1
    · simp [flatA] at hu; subst hu; exact h2
    · simp [flatA] at hu; subst hu; exact h3
    · simp [flatA] at hu; subst hu; exact h4
    · obtain ⟨i, rfl⟩ : ∃ i, j = i + 5 := ⟨j - 5, by omega⟩
      have hu2 : (flatA xs)[i]? = some u := by simpa [flatA] using hu
      have := rd_of_acts xs (off + 5) (fun k hk => by
        have := h (k + 1) (by simpa using hk)
        simp only [List.getElem_cons_succ] at this
        rw [show off + (k + 1) * 5 = off + 5 + k * 5 by omega] at this
        exact this) i u hu2
      rw [show off + (i + 5) = off + 5 + i by omega]
      exact this
theorem rd_of_groups {W : World} {blk : Nat} : ∀ (gs : List (Int × Int)) (off : Nat), (∀ k (hk : k < gs.length), W.cell? ⟨blk, off + k * 2, none⟩ = some (.int .i64 (gs[k]).1) ∧ W.cell? ⟨blk, off + k * 2 + 1, none⟩ = some (.int .i64 (gs[k]).2)) → ∀ j u, (flatG gs)[j]? = some u → W.cell? ⟨blk, off + j, none⟩ = some u
  | [], _, _, j, u, hu => by simp [flatG] at hu
  | x :: xs, off, h, j, u, hu => by
    obtain ⟨h0, h1⟩ := h 0 (by simp)
    simp only [Nat.zero_mul, Nat.add_zero, List.getElem_cons_zero] at h0 h1
    rcases (show j = 0 ∨ j = 1 ∨ 2 ≤ j by omega) with rfl | rfl | hj
    · simp [flatG] at hu; subst hu; exact h0
    · simp [flatG] at hu; subst hu; exact h1
    · obtain ⟨i, rfl⟩ : ∃ i, j = i + 2 := ⟨j - 2, by omega⟩
      have hu2 : (flatG xs)[i]? = some u := by simpa [flatG] using hu
      have := rd_of_groups xs (off + 2) (fun k hk => by
        have := h (k + 1) (by simpa using hk)
        simp only [List.getElem_cons_succ] at this
        rw [show off + (k + 1) * 2 = off + 2 + k * 2 by omega] at this
        exact this) i u hu2
      rw [show off + (i + 2) = off + 2 + i by omega]
      exact this
theorem flatG_len2 : ∀ gs : List (Int × Int), (flatG gs).length = gs.length * 2
  | [] => rfl
  | g :: gs => by simp only [flatG, List.length_cons, flatG_len2 gs]; omega

theorem cells5 {W : World} {a : Addr} {cs : List Value} (h : W.cells? 0 a 5 = some cs) : cs.length = 5 ∧ ∀ j, j < 5 → W.cell? (a.add j) = cs[j]? := by
  unfold World.cells? at h
  rw [if_pos (Nat.zero_le _)] at h
  refine ⟨by simpa using mapM_some_length h, fun j hj => ?_⟩
  have := mapM_some_get h j j (by simp [hj])
  exact this

theorem trod_act {H : Type} {enc : TypeId × Value → H} {W : World} {fuel : Nat} {cs : List Value} {x : DataW H × List MemPlace} (h : DataW.trod enc Try.prog W 0 (fun _ => true) true fuel 85 cs = some x) :
    ∃ y : Act5, cs = y.cs.toList := by
  obtain ⟨y0, y1, n, _, hl, h0, h1⟩ := trod_struct2 Try.underlying85 h
  have c5 : Try.prog.cellsOf 85 = 5 := by kernel_rfl
  have cs1 : Try.prog.cellsOf 9 = 1 := by kernel_rfl
  have c4 : Try.prog.cellsOf 38 = 4 := by kernel_rfl
  have c1 : Try.prog.cellsOf 3 = 1 := by kernel_rfl
  rw [c5] at hl
  simp only [cs1, c4, List.drop_zero] at h0 h1
  obtain ⟨s, e0, _, _⟩ := DataW.trod_string Try.underlying9 h0
  obtain ⟨zs, m, _, _, _, hz, hel⟩ := DataW.trod_array Try.underlying38 h1
  rw [c1] at hel
  match cs, hl with
  | [u0, u1, u2, u3, u4], _ =>
    have each : ∀ (i : Nat) (u : Value), i < 4 → (((([u0, u1, u2, u3, u4] : List Value).drop 1).take 4).drop (i * 1)).take 1 = [u] → ∃ z : Int, u = .int .i64 z := by
      intro i u hi hu
      have h2 := hel i hi
      rw [hu, List.getElem?_eq_getElem (by omega)] at h2
      obtain ⟨z, e, _, _⟩ := DataW.trod_int Try.underlying3 h2
      exact ⟨z, by simpa using e⟩
    obtain ⟨z0, rfl⟩ := each 0 u1 (by omega) rfl
    obtain ⟨z1, rfl⟩ := each 1 u2 (by omega) rfl
    obtain ⟨z2, rfl⟩ := each 2 u3 (by omega) rfl
    obtain ⟨z3, rfl⟩ := each 3 u4 (by omega) rfl
    have e0' : u0 = .string s := by simpa using e0
    subst e0'
    exact ⟨⟨s, z0, z1, z2, z3⟩, rfl⟩

theorem open_acts {H : Type} {enc : TypeId × Value → H} {W : World} {v : Value} {fuel : Nat} {x : DataW H × List MemPlace} (hf : DataW.trod enc Try.prog W 0 (fun _ => true) true fuel 45 [v] = some x) :
    ∃ (n : Nat) (xs : List Act5), n ≤ maxLen ∧ Rd W 5 n v (flatA xs) := by
  have hC : Try.prog.cellsOf 85 = 5 := by kernel_rfl
  rcases open_slice Try.underlying45 hf with ⟨hcs, hx⟩ | ⟨a, len, cap, m, n, D, Pl, hcs, _, hl, hm, hmm, hx, hel⟩
  · simp at hcs
    subst hcs
    exact ⟨0, [], Nat.zero_le _, none, 0, 0, 0, rfl, rfl, fun h => absurd rfl h, fun h => absurd rfl h, fun j u hu => by simp [flatA] at hu⟩
  · simp at hcs
    subst hcs
    simp only [if_true] at hmm
    have each : ∀ i, i < len → ∃ y : Act5, ∀ j u, y.cs[j]? = some u → W.cell? ((a.add (i * 5)).add j) = some u := by
      intro i hi2
      obtain ⟨cs, hc, hd⟩ := hel i (by omega)
      rw [hC] at hc
      obtain ⟨_, hcell⟩ := cells5 hc
      obtain ⟨y, rfl⟩ := trod_act hd
      refine ⟨y, fun j u hu => ?_⟩
      have hj : j < 5 := by
        have := (Array.getElem?_eq_some_iff.1 hu).1
        simpa [Act5.cs] using this
      rw [hcell j hj]
      simpa using hu
    by_cases hp : 0 < len
    · obtain ⟨b, off, spot⟩ := a
      have hspot : spot = none := by
        obtain ⟨y, h0⟩ := each 0 hp
        simpa [Addr.add] using World.cell?_spot (h0 0 _ rfl)
      subst hspot
      have hb : b < W.heap.size := by
        obtain ⟨y, h0⟩ := each 0 hp
        simpa [Addr.add] using World.block_lt_of_cell? _ _ (h0 0 _ rfl)
      let f : Nat → Act5 := fun k => if h : k < len then Classical.choose (each k h) else ⟨⟨#[]⟩, 0, 0, 0, 0⟩
      have hfk : ∀ k, k < len → ∀ j u, (f k).cs[j]? = some u → W.cell? ⟨b, off + k * 5 + j, none⟩ = some u := fun k hk j u hu => by
        have := Classical.choose_spec (each k hk) j u (by simpa [f, hk] using hu)
        rw [← add_plain, ← add_plain]
        exact this
      refine ⟨len, (List.range len).map f, by omega, some ⟨b, off, none⟩, b, off, cap, rfl, by rw [flatA_len]; simp, fun _ => rfl, fun _ => hb, rd_of_acts _ _ fun k hk => ?_⟩
      have hk2 : k < len := by simpa using hk
      have e : ((List.range len).map f)[k] = f k := by simp
      rw [e]
      exact ⟨hfk k hk2 0 _ rfl, hfk k hk2 1 _ rfl, hfk k hk2 2 _ rfl, hfk k hk2 3 _ rfl, hfk k hk2 4 _ rfl⟩
    · have : len = 0 := by omega
      subst this
      exact ⟨0, [], Nat.zero_le _, _, 0, 0, cap, rfl, rfl, fun h => absurd rfl h, fun h => absurd rfl h, fun j u hu => by simp [flatA] at hu⟩

set_option maxRecDepth 20000 in
theorem open_groups {H : Type} {enc : TypeId × Value → H} {W : World} {v : Value} {fuel : Nat} {x : DataW H × List MemPlace} (hf : DataW.trod enc Try.prog W 0 (fun _ => true) true fuel 23 [v] = some x) :
    ∃ (m : Nat) (gs : List (Int × Int)), m ≤ maxLen ∧ Rd W 2 m v (flatG gs) := by
  obtain ⟨ad, blk, off, len, cap, x, y, rfl, hm, had, hx, hy⟩ := trod_sl2 Try.underlying23 Try.underlying56 (by kernel_rfl) Try.underlying3 (by kernel_rfl) rfl rfl rfl rfl hf
  refine ⟨len, (List.range len).map fun k => (x k, y k), hm, ad, blk, off, cap, rfl, by rw [flatG_len2]; simp, fun h => (had 0 (by omega)).1, fun h => (had 0 (by omega)).2, rd_of_groups _ _ fun k hk => ?_⟩
  have hk2 : k < len := by simpa using hk
  have e : ((List.range len).map fun k => (x k, y k))[k] = (x k, y k) := by simp
  rw [e]
  exact ⟨hx k hk2, hy k hk2⟩

set_option maxRecDepth 20000 in
/-- a script that comes in -/
theorem open_script {H : Type} {enc : TypeId × Value → H} {W : World} {base : Nat} {v : Value} {d : DataW H} {ps : List MemPlace}
    (hv : Value.okWide Try.prog W .any base 47 v) (h : DataW.Trod enc Try.prog W 0 (fun _ => true) true 47 v d ps) :
    ∃ (vG vL : Value) (secs : Int) (m n : Nat) (gs : List (Int × Int)) (xs : List Act5), v = .agg #[vG, .int .i64 secs, vL] ∧ m ≤ maxLen ∧ n ≤ maxLen ∧ Rd W 2 m vG (flatG gs) ∧ Rd W 5 n vL (flatA xs) := by
  obtain ⟨cs, rfl, hsz⟩ := okWide_struct Try.underlying47 hv
  obtain ⟨fuel, hf⟩ := h
  have c3 : Try.prog.cellsOf 47 = 3 := by kernel_rfl
  have c2 : Try.prog.cellsOf 25 = 2 := by kernel_rfl
  have cl : Try.prog.cellsOf 45 = 1 := by kernel_rfl
  have cg : Try.prog.cellsOf 23 = 1 := by kernel_rfl
  have ci : Try.prog.cellsOf 3 = 1 := by kernel_rfl
  rw [c3] at hsz
  obtain ⟨l, hl⟩ : ∃ l, cs.toList = l := ⟨_, rfl⟩
  have hll : l.length = 3 := by rw [← hl]; simpa using hsz
  match l, hll with
  | [u0, u1, u2], _ =>
    have hcs : cs = #[u0, u1, u2] := by apply Array.ext'; exact hl
    subst hcs
    have hf' : DataW.trod enc Try.prog W 0 (fun _ => true) true fuel 47 [u0, u1, u2] = some (d, ps) := hf
    obtain ⟨y0, y1, n, _, _, h0, h1⟩ := trod_struct2 Try.underlying47 hf'
    simp only [c2, cl, List.drop_zero] at h0 h1
    have h0' : DataW.trod enc Try.prog W 0 (fun _ => true) true n 25 [u0, u1] = some y0 := h0
    have h1' : DataW.trod enc Try.prog W 0 (fun _ => true) true n 45 [u2] = some y1 := h1
    obtain ⟨z0, z1, k, _, _, k0, k1⟩ := trod_struct2 Try.underlying25 h0'
    simp only [cg, ci, List.drop_zero] at k0 k1
    have k0' : DataW.trod enc Try.prog W 0 (fun _ => true) true k 23 [u0] = some z0 := k0
    have k1' : DataW.trod enc Try.prog W 0 (fun _ => true) true k 3 [u1] = some z1 := k1
    obtain ⟨secs, e, _, _⟩ := DataW.trod_int Try.underlying3 k1'
    have e' : u1 = .int .i64 secs := by simpa using e
    subst e'
    obtain ⟨m, gs, hm, hG⟩ := open_groups k0'
    obtain ⟨n', xs, hn, hL⟩ := open_acts h1'
    exact ⟨u0, u2, secs, m, n', gs, xs, rfl, hm, hn, hG, hL⟩

end Go.Proofs.Ytajionjffijffaa

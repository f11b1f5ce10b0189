/-
  polderlaw25.same of two scripts of the same contents; polderlaw25.few.
-/
import Derived.ChangeKeysEq
import Derived.Laws.StructEq
import Derived.Test.YtajionjffijffaaRd
namespace Go.Proofs.Ytajionjffijffaa
open Go.RowKit Go.Sort

theorem RdAt.grp {W : World} {gs : List (Int × Int)} {n : Nat} {ad : Option Addr} {blk off : Nat} (h : RdAt W 2 n (flatG gs) ad blk off) {k : Nat} (hk : k < gs.length) :
    W.cell? ⟨blk, off + k * 2, none⟩ = some (.int .i64 (gs[k]).1) ∧ W.cell? ⟨blk, off + k * 2 + 1, none⟩ = some (.int .i64 (gs[k]).2) :=
  ⟨h.cell _ _ (flatG_even gs k hk), h.cell _ _ (flatG_odd gs k hk)⟩
theorem flatG_n {gs : List (Int × Int)} {n : Nat} (h : (flatG gs).length = n * 2) : n = gs.length := by
  have : (flatG gs).length = gs.length * 2 := by
    clear h
    induction gs with
    | nil => rfl
    | cons p ps ih => simp only [flatG, List.length_cons, ih]; omega
  omega

set_option maxRecDepth 20000 in
theorem run_neq_act (y : Act5) (W : World) : (binOp .neq 85 (.agg #[.string y.word, .int .i64 y.n0, .int .i64 y.n1, .int .i64 y.n2, .int .i64 y.n3]) (.agg #[.string y.word, .int .i64 y.n0, .int .i64 y.n1, .int .i64 y.n2, .int .i64 y.n3])).run Try.prog W = .ok (.bool false) W := by
  obtain ⟨w, a, b, c, d⟩ := y
  simp only
  obtain ⟨i, hi⟩ : ∃ i, Try.prog.info? 3 = some i := Option.isSome_iff_exists.1 (by kernel_rfl)
  have hc : Try.prog.cellsOf 3 = 1 := by kernel_rfl
  have hk : Try.prog.plainKey 3 = true := by kernel_rfl
  have hks : Try.prog.plainKey 9 = true := by kernel_rfl
  have hp : ∀ (xs : Array Value) (o : Nat) (v : Value), xs[o]? = some v → (part 3 xs o).run Try.prog W = .ok v W := fun xs o v h => run_part_plain W hk h
  have heq : ∀ x : Int, (Op.equalIn 9998 3 (.int .i64 x) (.int .i64 x)).run Try.prog W = .ok true W := fun x => by
    have := run_equalIn_int (P := Try.prog) W 9997 3 .i64 .i64 x x Try.underlying3
    rw [this, beq_self_eq_true]
  have ha : (Op.equalIn 9999 38 (.agg #[.int .i64 a, .int .i64 b, .int .i64 c, .int .i64 d]) (.agg #[.int .i64 a, .int .i64 b, .int .i64 c, .int .i64 d])).run Try.prog W = .ok true W := by
    have := run_equalIn_array (P := Try.prog) W 9998 #[.int .i64 a, .int .i64 b, .int .i64 c, .int .i64 d] #[.int .i64 a, .int .i64 b, .int .i64 c, .int .i64 d] Try.underlying38 hi
    rw [hc] at this
    rw [this, show List.range 4 = [0, 1, 2, 3] from rfl]
    have p0 : ∀ u x y z : Value, (part 3 #[u, x, y, z] (0 * 1)).run Try.prog W = .ok u W := fun u x y z => hp _ _ _ rfl
    have p1 : ∀ u x y z : Value, (part 3 #[u, x, y, z] (1 * 1)).run Try.prog W = .ok x W := fun u x y z => hp _ _ _ rfl
    have p2 : ∀ u x y z : Value, (part 3 #[u, x, y, z] (2 * 1)).run Try.prog W = .ok y W := fun u x y z => hp _ _ _ rfl
    have p3 : ∀ u x y z : Value, (part 3 #[u, x, y, z] (3 * 1)).run Try.prog W = .ok z W := fun u x y z => hp _ _ _ rfl
    simp only [Nat.mul_one] at p0 p1 p2 p3
    simp [Op.eqItems, Sem.run_bind, p0, p1, p2, p3, heq, Result.andThen]
  have hs : (Op.equalIn 9999 9 (.string w) (.string w)).run Try.prog W = .ok true W := by
    rw [run_equalIn_string W 9998 9 w w Try.underlying9, beq_self_eq_true]
  have q0 : (part 9 #[.string w, .int .i64 a, .int .i64 b, .int .i64 c, .int .i64 d] 0).run Try.prog W = .ok (.string w) W := run_part_plain W hks rfl
  have q1 : (part 38 #[.string w, .int .i64 a, .int .i64 b, .int .i64 c, .int .i64 d] 1).run Try.prog W = .ok (.agg #[.int .i64 a, .int .i64 b, .int .i64 c, .int .i64 d]) W := by
    simp [go_sem, part]
  have hfs : Try.prog.fieldsOf 85 = #[{ name := "Word", type := 9, offset := 0, embedded := false, tag := "", pkgPath := "", byteOffset := 0 }, { name := "N", type := 38, offset := 1, embedded := false, tag := "", pkgPath := "", byteOffset := 16 }] := by kernel_rfl
  rw [run_neq_struct, run_equalIn_agg W 9999 _ _ _ (by rw [hfs]; exact Try.underlying85) (by kernel_rfl), hfs]
  simp [Op.eqFields, Sem.run_bind, q0, q1, hs, ha, Result.andThen]

set_option maxRecDepth 20000 in
set_option maxHeartbeats 4000000 in
theorem same_at (w : World) (vG vL vG' vL' : Value) (secs : Int) (gs : List (Int × Int)) (xs : List Act5) (m n : Nat) (hG : Rd w 2 m vG (flatG gs)) (hL : Rd w 5 n vL (flatA xs)) (hG' : Rd w 2 m vG' (flatG gs)) (hL' : Rd w 5 n vL' (flatA xs)) (hm : m < 1000000) (hn : n < 1000000) :
    Calls Try.prog 14 #[.agg #[vG, .int .i64 secs, vL], .agg #[vG', .int .i64 secs, vL']] w (Ret (.bool true) w) := by
  obtain ⟨adG, bG, oG, cG, rfl, hG⟩ := hG
  obtain ⟨adH, bH, oH, cH, rfl, hH⟩ := hG'
  obtain ⟨adL, bL, oL, cL, rfl, hL⟩ := hL
  obtain ⟨adM, bM, oM, cM, rfl, hM⟩ := hL'
  have hmx := flatG_n hG.len
  have hnx := flatA_n hL.len
  have HM := Lib.hid hmx
  have HN := Lib.hid hnx
  clear hmx hnx
  go_enter Try.func14, Try.ntmps14
  go_wp2_with fail
  go_loopw [5] (fun i wr => ∃ k : Nat, k ≤ m ∧ i = .int .i64 (k : Int) ∧ ∃ g : Gr, wr = gr ((w.alloc (.cells #[.slice adG m cG, .int .i64 secs, .slice adL n cL] 47)).alloc (.cells #[.slice adH m cH, .int .i64 secs, .slice adM n cM] 47)) g) (fun i _ => m - (intOf i).toNat)
  case atStart => exact ⟨0, by omega, rfl, ex_gr _⟩
  case round =>
    obtain ⟨k, hk, rfl, g, rfl⟩ := hrel
    by_cases hlt : k < m
    · have hmx := HM.out
      obtain ⟨d0, d1⟩ := hG.grp (k := k) (by omega)
      obtain ⟨e0, e1⟩ := hH.grp (k := k) (by omega)
      have had := hG.addr (by omega)
      have had2 := hH.addr (by omega)
      subst had had2
      haveI : Old bG w := ⟨hG.lt (by omega)⟩
      haveI : Old bH w := ⟨hH.lt (by omega)⟩
      have hix : ∀ W : World, (Instr.indexAt 23 (.slice (some ⟨bG, oG, none⟩) m cG) (.int .i64 (k : Int))).run Try.prog W = .ok (.pointer (some ⟨bG, oG + k * 2, none⟩)) W := fun W => by simp [go_sem, hlt]
      have hix2 : ∀ W : World, (Instr.indexAt 23 (.slice (some ⟨bH, oH, none⟩) m cH) (.int .i64 (k : Int))).run Try.prog W = .ok (.pointer (some ⟨bH, oH + k * 2, none⟩)) W := fun W => by simp [go_sem, hlt]
      obtain ⟨⟨a, b⟩, hab⟩ : ∃ p, gs[k]'(by omega) = p := ⟨_, rfl⟩
      rw [hab] at d0 d1 e0 e1
      simp only at d0 d1 e0 e1
      clear hab hmx hG hH hL hM
      go_wp2_with fail
      refine wp_region_gr2 (by kernel_rfl) (by kernel_rfl) ?_
      repeat (go_big_quiet_step (fail))
      refine wpQuiet_nil ?_
      rintro _ ⟨g2, rfl⟩
      go_wp2_with fail
      go_roundw
      case rel => exact ⟨k + 1, by omega, by go_num, _, rfl⟩
      case measure => simp [intOf]; omega
    · obtain rfl : k = m := by omega
      clear hG hH HM
      go_wp2_with fail
      go_loopw [6] (fun i wr => ∃ j : Nat, j ≤ n ∧ i = .int .i64 (j : Int) ∧ ∃ g : Gr, wr = gr ((w.alloc (.cells #[.slice adG k cG, .int .i64 secs, .slice adL n cL] 47)).alloc (.cells #[.slice adH k cH, .int .i64 secs, .slice adM n cM] 47)) g) (fun i _ => n - (intOf i).toNat)
      case atStart => exact ⟨0, by omega, rfl, _, rfl⟩
      case round =>
        obtain ⟨j, hj, rfl, g1, rfl⟩ := hrel
        by_cases hlt : j < n
        · have hnx := HN.out
          obtain ⟨d0, d1, d2, d3, d4⟩ := hL.act (k := j) (by omega)
          obtain ⟨e0, e1, e2, e3, e4⟩ := hM.act (k := j) (by omega)
          have had := hL.addr (by omega)
          have had2 := hM.addr (by omega)
          subst had had2
          haveI : Old bL w := ⟨hL.lt (by omega)⟩
          haveI : Old bM w := ⟨hM.lt (by omega)⟩
          have hix : ∀ W : World, (Instr.indexAt 45 (.slice (some ⟨bL, oL, none⟩) n cL) (.int .i64 (j : Int))).run Try.prog W = .ok (.pointer (some ⟨bL, oL + j * 5, none⟩)) W := fun W => by simp [go_sem, hlt]
          have hix2 : ∀ W : World, (Instr.indexAt 45 (.slice (some ⟨bM, oM, none⟩) n cM) (.int .i64 (j : Int))).run Try.prog W = .ok (.pointer (some ⟨bM, oM + j * 5, none⟩)) W := fun W => by simp [go_sem, hlt]
          obtain ⟨⟨y0, y1, y2, y3, y4⟩, hab⟩ : ∃ p, xs[j]'(by omega) = p := ⟨_, rfl⟩
          rw [hab] at d0 d1 d2 d3 d4 e0 e1 e2 e3 e4
          simp only at d0 d1 d2 d3 d4 e0 e1 e2 e3 e4
          have hq := run_neq_act ⟨y0, y1, y2, y3, y4⟩
          simp only at hq
          clear hab hnx hL hM
          go_wp2_with fail
          refine wp_region_gr2 (by kernel_rfl) (by kernel_rfl) ?_
          repeat (go_big_quiet_step (fail))
          refine wpQuiet_nil ?_
          rintro _ ⟨g2, rfl⟩
          go_wp2_with fail
          go_roundw
          case rel => exact ⟨j + 1, by omega, by go_num, _, rfl⟩
          case measure => simp [intOf]; omega
        · obtain rfl : j = n := by omega
          clear hL hM HN
          go_wp2_with fail
          go_ret
          exact Ret.mk rfl (by (repeat' (first | (with_reducible exact Below.refl _ _) | (with_reducible refine belowGrU ?_ _) | (with_reducible refine belowAlloc ?_ _) | (with_reducible refine Below.setCell ?_ ?_ _) | (with_reducible refine Below.drew ?_) | (simp [go_sem]; done) | (simp [go_sem]; omega))))

/-- of a size that is looked at -/
def fewA (k : Nat) : List Act5 → Bool
  | [] => true
  | x :: xs => if 100 < k then true else if 100 < x.word.size then false else fewA (k + 1) xs
def fewS (gs : List (Int × Int)) (xs : List Act5) : Bool := fewA 0 xs && decide (xs.length ≤ 100) && decide (gs.length ≤ 100)

set_option maxRecDepth 20000 in
set_option maxHeartbeats 4000000 in
theorem few_at (w : World) (vG vL : Value) (secs : Int) (gs : List (Int × Int)) (xs : List Act5) (m n : Nat) (hG : Rd w 2 m vG (flatG gs)) (hL : Rd w 5 n vL (flatA xs)) (hm : m ≤ 9223372036854775807) (hn : n ≤ 9223372036854775807) :
    Calls Try.prog 16 #[.agg #[vG, .int .i64 secs, vL]] w (Ret (.bool (fewS gs xs)) w) := by
  obtain ⟨adG, bG, oG, cG, rfl, hG⟩ := hG
  obtain ⟨adL, bL, oL, cL, rfl, hL⟩ := hL
  have hmx := flatG_n hG.len
  have hnx := flatA_n hL.len
  have HF : Hid (fewA 0 (xs.drop 0) = fewA 0 xs) := Lib.hid rfl
  have HS : Hid (fewS gs xs = (fewA 0 xs && decide ((n : Int) ≤ 100) && decide ((m : Int) ≤ 100))) := Lib.hid (by
    have e1 : decide (n ≤ 100) = decide ((n : Int) ≤ 100) := by rw [decide_eq_decide]; omega
    have e2 : decide (m ≤ 100) = decide ((m : Int) ≤ 100) := by rw [decide_eq_decide]; omega
    unfold fewS
    rw [← hmx, ← hnx, e1, e2])
  obtain ⟨R, hR⟩ : ∃ R, fewA 0 xs = R := ⟨_, rfl⟩
  rw [hR] at HF HS
  rw [HS.out]
  have HM := Lib.hid hmx
  have HN := Lib.hid hnx
  clear hmx hnx hR HS
  go_enter Try.func16, Try.ntmps16
  go_wp2_with fail
  go_loopw [3] (fun i wr => ∃ k : Nat, k ≤ n ∧ k ≤ 101 ∧ i = .int .i64 (k : Int) ∧ Hid (fewA k (xs.drop k) = R) ∧ ∃ g : Gr, wr = gr (w.alloc (.cells #[.slice adG m cG, .int .i64 secs, .slice adL n cL] 47)) g) (fun i _ => n - (intOf i).toNat)
  case atStart => exact ⟨0, by omega, by omega, rfl, HF, ex_gr _⟩
  case round =>
    obtain ⟨k, hk, hk1, rfl, HK, g, rfl⟩ := hrel
    by_cases hlt : k < n
    · have hnx := HN.out
      have hl := HK.out
      rw [List.drop_eq_getElem_cons (by omega), fewA] at hl
      by_cases h100 : 100 < k
      · rw [if_pos h100] at hl
        subst hl
        have hn1 : (100 : Int) < (n : Int) := by omega
        have hn2 : decide ((n : Int) ≤ 100) = false := by simp; omega
        rw [hn2]
        clear hL hG HK HF hnx hn2
        go_wp2_with fail
        all_goals (try (exfalso; omega))
        all_goals go_ret
        all_goals exact Ret.mk (by simp <;> omega) (by (repeat' (first | (with_reducible exact Below.refl _ _) | (with_reducible refine belowGrU ?_ _) | (with_reducible refine belowAlloc ?_ _) | (with_reducible refine Below.setCell ?_ ?_ _) | (with_reducible refine Below.drew ?_) | (simp [go_sem]; done) | (simp [go_sem]; omega))))
      · rw [if_neg h100] at hl
        obtain ⟨d0, d1, d2, d3, d4⟩ := hL.act (k := k) (by omega)
        have had := hL.addr (by omega)
        subst had
        haveI : Old bL w := ⟨hL.lt (by omega)⟩
        have hix : ∀ W : World, (Instr.indexAt 45 (.slice (some ⟨bL, oL, none⟩) n cL) (.int .i64 (k : Int))).run Try.prog W = .ok (.pointer (some ⟨bL, oL + k * 5, none⟩)) W := fun W => by simp [go_sem, hlt]
        obtain ⟨⟨y0, y1, y2, y3, y4⟩, hab⟩ : ∃ p, xs[k]'(by omega) = p := ⟨_, rfl⟩
        rw [hab] at d0 d1 d2 d3 d4 hl
        simp only at d0 d1 d2 d3 d4 hl
        by_cases hw : 100 < y0.size
        · rw [if_pos hw] at hl
          subst hl
          clear hL hG HK HF hab hnx
          go_wp2_with fail
          all_goals (try (exfalso; omega))
          all_goals go_ret
          all_goals exact Ret.mk (by simp <;> omega) (by (repeat' (first | (with_reducible exact Below.refl _ _) | (with_reducible refine belowGrU ?_ _) | (with_reducible refine belowAlloc ?_ _) | (with_reducible refine Below.setCell ?_ ?_ _) | (with_reducible refine Below.drew ?_) | (simp [go_sem]; done) | (simp [go_sem]; omega))))
        · rw [if_neg hw] at hl
          have HL2 := Lib.hid hl
          clear hL hG HK HF hab hl hnx
          go_wp2_with fail
          all_goals (try (exfalso; omega))
          go_roundw
          case rel => exact ⟨k + 1, by omega, by omega, by go_num, HL2, _, rfl⟩
          case measure => simp [intOf]; omega
    · obtain rfl : k = n := by omega
      have hl := HK.out
      have hnx := HN.out
      rw [List.drop_of_length_le (by omega), fewA] at hl
      subst hl
      clear hL hG HK HF hnx
      by_cases h100 : (k : Int) ≤ 100
      all_goals by_cases h101 : (m : Int) ≤ 100
      all_goals (
        go_wp2_with fail
        all_goals (try (exfalso; omega))
        all_goals go_ret
        all_goals exact Ret.mk (by simp <;> omega) (by (repeat' (first | (with_reducible exact Below.refl _ _) | (with_reducible refine belowGrU ?_ _) | (with_reducible refine belowAlloc ?_ _) | (with_reducible refine Below.setCell ?_ ?_ _) | (with_reducible refine Below.drew ?_) | (simp [go_sem]; done) | (simp [go_sem]; omega)))))

end Go.Proofs.Ytajionjffijffaa

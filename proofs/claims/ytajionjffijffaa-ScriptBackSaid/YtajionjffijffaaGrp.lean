/-
  script.group, step: a group as it is written; what is wrong with an act.
-/
import Derived.Laws.Rows
import Derived.Laws.ResultCell
import Derived.ChangeKeysEq
import Derived.Test.YtajionjffijffaaWds2
namespace Go.Proofs.Ytajionjffijffaa
open Go.RowKit Go.Sort

def restS (s : ByteArray) (c : UInt8) : ByteArray := ofL (Lib.trimPrefix s.data.toList [c])
def groupV (s : ByteArray) : Value :=
  if Lib.hasPrefix s.data.toList [109] then .tuple #[.agg #[.int .i64 0, .int .i64 (numS (restS s 109)).1], .bool (numS (restS s 109)).2]
  else if Lib.hasPrefix s.data.toList [112] then .tuple #[.agg #[.int .i64 1, .int .i64 (numS (restS s 112)).1], .bool (numS (restS s 112)).2]
  else .tuple #[.agg #[.int .i64 0, .int .i64 0], .bool false]
theorem letters_any : Pure Try.prog 34 #[] (.agg #[.int .i32 109, .int .i32 112]) := by
  intro w
  go_enter Try.func34, Try.ntmps34
  go_wp2_with fail
  have hcell : (w.alloc (.cells #[.int .i32 109, .int .i32 112] 88)).heap[w.heap.size]? = some (.cells #[.int .i32 109, .int .i32 112] 88 (0, 0)) := World.alloc_heap_new _ _
  exact bodyPost_ret (results_cell_row rfl _ _ w.heap.size 88 _ _ _ rfl hcell Try.underlying88 rfl (by kernel_rfl)) rfl (Ret.mk rfl (by (repeat' (first | (with_reducible exact Below.refl _ _) | (with_reducible refine belowGrU ?_ _) | (with_reducible refine belowAlloc ?_ _) | (with_reducible refine Below.setCell ?_ ?_ _) | (with_reducible refine Below.drew ?_) | (simp [go_sem]; done) | (simp [go_sem]; omega)))))

theorem run_letter (W : World) (x y : Value) (k : Nat) (hk : k < 2) : (Instr.index 88 (.agg #[x, y]) (.int .i64 (k : Int))).run Try.prog W = .ok (#[x, y].getD k undef) W := by
  have hi : ∃ i, Try.prog.info? 21 = some i := Option.isSome_iff_exists.1 (by kernel_rfl)
  obtain ⟨i, hi⟩ := hi
  have hc : Try.prog.cellsOf 21 = 1 := by kernel_rfl
  have hk' : Try.prog.plainKey 21 = true := by kernel_rfl
  have hp : (part 21 #[x, y] k).run Try.prog W = .ok (#[x, y].getD k undef) W := by
    refine run_part_plain W hk' ?_
    rcases (show k = 0 ∨ k = 1 by omega) with rfl | rfl <;> rfl
  simp [Instr.index, run_underlying Try.underlying88, asIntOf, run_sizeOf W hi, hc, hp]
  intro h; omega

theorem results_cell_tmp2 {fn : Func} {p u : Tmp} (h : fn.results = #[.cell p 56, .tmp u]) (tmps : Array Value) (w : World) (g : Nat) (a b : Value) (fr : Nat × Nat)
    (hp : tmps.getD p undef = .pointer (some ⟨g, 0, none⟩)) (hg : w.heap[g]? = some (.cells #[a, b] 56 fr)) :
    (results fn tmps).run Try.prog w = .ok (.tuple #[.agg #[a, b], tmps.getD u undef]) w := by
  rw [results_cell_tmp h, hp]
  simp only [asAddr, Sem.run_pure, Result.andThen_ok]
  rw [run_loadVar_row (P := Try.prog) w g 56 56 #[a, b] fr _ hg Try.underlying56 rfl (by kernel_rfl)]
  rfl

set_option maxRecDepth 20000 in
set_option maxHeartbeats 1000000 in
theorem group_any (s : ByteArray) : Pure Try.prog 53 #[.string s] (groupV s) := by
  intro w
  have c0 : Pure Try.prog 59 #[.string s, .string ⟨#[109]⟩] (.tuple #[.string (restS s 109), .bool (Lib.hasPrefix s.data.toList [109])]) := pure_of_same fun W => Try.strings_CutPrefix s ⟨#[109]⟩ W
  have c1 : Pure Try.prog 59 #[.string s, .string ⟨#[112]⟩] (.tuple #[.string (restS s 112), .bool (Lib.hasPrefix s.data.toList [112])]) := pure_of_same fun W => Try.strings_CutPrefix s ⟨#[112]⟩ W
  have n0 := number_any (restS s 109)
  have n1 := number_any (restS s 112)
  have e0 : Utf8.encode 109 = ⟨#[109]⟩ := by decide
  have e1 : Utf8.encode 112 = ⟨#[112]⟩ := by decide
  have i0 : ∀ W : World, (Instr.index 88 (.agg #[.int .i32 109, .int .i32 112]) (.int .i64 0)).run Try.prog W = .ok (.int .i32 109) W := fun W => run_letter W _ _ 0 (by omega)
  have i1 : ∀ W : World, (Instr.index 88 (.agg #[.int .i32 109, .int .i32 112]) (.int .i64 1)).run Try.prog W = .ok (.int .i32 112) W := fun W => run_letter W _ _ 1 (by omega)
  have hv : groupV s = if Lib.hasPrefix s.data.toList [109] then .tuple #[.agg #[.int .i64 0, .int .i64 (numS (restS s 109)).1], .bool (numS (restS s 109)).2]
    else if Lib.hasPrefix s.data.toList [112] then .tuple #[.agg #[.int .i64 1, .int .i64 (numS (restS s 112)).1], .bool (numS (restS s 112)).2]
    else .tuple #[.agg #[.int .i64 0, .int .i64 0], .bool false] := rfl
  rw [hv]
  clear hv
  generalize restS s 109 = r0 at *
  generalize restS s 112 = r1 at *
  obtain ⟨⟨a0, b0⟩, h0⟩ : ∃ x, numS r0 = x := ⟨_, rfl⟩
  obtain ⟨⟨a1, b1⟩, h1⟩ : ∃ x, numS r1 = x := ⟨_, rfl⟩
  rw [h0] at n0 ⊢
  rw [h1] at n1 ⊢
  clear h0 h1
  simp only at n0 n1 ⊢
  have fin : ∀ (tmps : Array Value) (a b : Value) (u : Bool) (g : Gr), tmps.getD 2 undef = .pointer (some ⟨w.heap.size, 0, none⟩) → tmps.getD 3 undef = .bool u →
      (results Try.f53 tmps).run Try.prog (gr (w.alloc (.cells #[a, b] 56)) g) = .ok (.tuple #[.agg #[a, b], .bool u]) (gr (w.alloc (.cells #[a, b] 56)) g) := fun tmps a b u g h2 h3 => by
    rw [results_cell_tmp2 rfl tmps _ w.heap.size a b (0, 0) h2 ((gr_heap _ _ (by simp)).trans (World.alloc_heap_new _ _)), h3]
  generalize Lib.hasPrefix s.data.toList [109] = p0 at *
  generalize Lib.hasPrefix s.data.toList [112] = p1 at *
  obtain ⟨R, hR⟩ : ∃ R : Value, (if p0 = true then Value.tuple #[.agg #[.int .i64 0, .int .i64 a0], .bool b0] else if p1 = true then .tuple #[.agg #[.int .i64 1, .int .i64 a1], .bool b1] else .tuple #[.agg #[.int .i64 0, .int .i64 0], .bool false]) = R := ⟨_, rfl⟩
  rw [hR]
  have HR := Lib.hid hR
  clear hR
  go_enter Try.func53, Try.ntmps53
  go_wp2_with (go_at_call 34; with_reducible refine (letters_any.at _).mono ?_; rintro e w' ⟨rfl, g, rfl⟩)
  go_loopw [11] (fun i wr => ∃ k : Nat, k ≤ 2 ∧ i = .int .i64 (k : Int) ∧ (0 < k → p0 = false) ∧ (1 < k → p1 = false) ∧ ∃ g' : Gr, wr = gr (w.alloc (.cells #[.int .i64 0, .int .i64 0] 56)) g')
    (fun i _ => 2 - (intOf i).toNat)
  case atStart => exact ⟨0, by omega, rfl, by omega, by omega, g, rfl⟩
  case round =>
    obtain ⟨k, hk, rfl, hp0, hp1, g', rfl⟩ := hrel
    rcases (show k = 0 ∨ k = 1 ∨ k = 2 by omega) with rfl | rfl | rfl
    · clear hp0 hp1
      cases p0
      · go_wp2_with (go_at_call 59; with_reducible refine (c0.at _).mono ?_; rintro e w' ⟨rfl, g2, rfl⟩)
        go_roundw
        case rel => exact ⟨1, by omega, rfl, fun _ => by first | rfl | trivial, by omega, _, rfl⟩
        case measure => simp [intOf]
      · go_wp2_with (first | (go_at_call 59; with_reducible refine (c0.at _).mono ?_; rintro e w' ⟨rfl, g2, rfl⟩) | (go_at_call 52; with_reducible refine (n0.at _).mono ?_; rintro e w' ⟨rfl, g3, rfl⟩))
        exact bodyPost_ret (fin _ _ _ _ _ rfl rfl) rfl (Ret.mk (by rw [← HR.out]; rfl) (by (repeat' (first | (with_reducible exact Below.refl _ _) | (with_reducible refine belowGrU ?_ _) | (with_reducible refine belowAlloc ?_ _) | (with_reducible refine Below.setCell ?_ ?_ _) | (with_reducible refine Below.drew ?_) | (simp [go_sem]; done) | (simp [go_sem]; omega)))))
    · have hp0 := hp0 (by omega)
      subst hp0
      clear hp1
      cases p1
      · go_wp2_with (go_at_call 59; with_reducible refine (c1.at _).mono ?_; rintro e w' ⟨rfl, g2, rfl⟩)
        go_roundw
        case rel => exact ⟨2, by omega, rfl, fun _ => by first | rfl | trivial, fun _ => by first | rfl | trivial, _, rfl⟩
        case measure => simp [intOf]
      · go_wp2_with (first | (go_at_call 59; with_reducible refine (c1.at _).mono ?_; rintro e w' ⟨rfl, g2, rfl⟩) | (go_at_call 52; with_reducible refine (n1.at _).mono ?_; rintro e w' ⟨rfl, g3, rfl⟩))
        exact bodyPost_ret (fin _ _ _ _ _ rfl rfl) rfl (Ret.mk (by rw [← HR.out]; rfl) (by (repeat' (first | (with_reducible exact Below.refl _ _) | (with_reducible refine belowGrU ?_ _) | (with_reducible refine belowAlloc ?_ _) | (with_reducible refine Below.setCell ?_ ?_ _) | (with_reducible refine Below.drew ?_) | (simp [go_sem]; done) | (simp [go_sem]; omega)))))
    · have hp0 := hp0 (by omega)
      have hp1 := hp1 (by omega)
      subst hp0
      subst hp1
      go_wp2_with fail
      exact bodyPost_ret (fin _ _ _ _ _ rfl rfl) rfl (Ret.mk (by rw [← HR.out]; rfl) (by (repeat' (first | (with_reducible exact Below.refl _ _) | (with_reducible refine belowGrU ?_ _) | (with_reducible refine belowAlloc ?_ _) | (with_reducible refine Below.setCell ?_ ?_ _) | (with_reducible refine Below.drew ?_) | (simp [go_sem]; done) | (simp [go_sem]; omega)))))

/-! ### an act -/
structure Act5 where
  word : ByteArray
  n0 : Int
  n1 : Int
  n2 : Int
  n3 : Int
def Act5.cs (x : Act5) : Array Value := #[.string x.word, .int .i64 x.n0, .int .i64 x.n1, .int .i64 x.n2, .int .i64 x.n3]
def Act5.v (x : Act5) : Value := .agg x.cs
def Act5.nth (x : Act5) : Nat → Int
  | 0 => x.n0
  | 1 => x.n1
  | 2 => x.n2
  | _ => x.n3
/-- is number i of an act of k numbers a right one? -/
def okN (x : Act5) (k i : Nat) : Bool := decide (-9007199254740992 ≤ x.nth i) && decide (x.nth i ≤ 9007199254740992) && (decide (i < k) || x.nth i == 0)
def stepS (x : Act5) : Int := match wordsS x.word with
  | none => 12
  | some k => if okN x k 0 && okN x k 1 && okN x k 2 && okN x k 3 then 0 else 1
theorem run_num (W : World) (x : Act5) (k : Nat) (hk : k < 4) : (Instr.index 38 (.agg #[.int .i64 x.n0, .int .i64 x.n1, .int .i64 x.n2, .int .i64 x.n3]) (.int .i64 (k : Int))).run Try.prog W = .ok (.int .i64 (x.nth k)) W := by
  have hi : ∃ i, Try.prog.info? 3 = some i := Option.isSome_iff_exists.1 (by kernel_rfl)
  obtain ⟨i, hi⟩ := hi
  have hc : Try.prog.cellsOf 3 = 1 := by kernel_rfl
  have hk' : Try.prog.plainKey 3 = true := by kernel_rfl
  have hp : (part 3 #[.int .i64 x.n0, .int .i64 x.n1, .int .i64 x.n2, .int .i64 x.n3] k).run Try.prog W = .ok (.int .i64 (x.nth k)) W := by
    refine run_part_plain W hk' ?_
    rcases (show k = 0 ∨ k = 1 ∨ k = 2 ∨ k = 3 by omega) with rfl | rfl | rfl | rfl <;> rfl
  simp [Instr.index, run_underlying Try.underlying38, asIntOf, run_sizeOf W hi, hc, hp]
  intro h; omega

set_option maxRecDepth 20000 in
set_option maxHeartbeats 1000000 in
theorem step_any (x : Act5) : Pure Try.prog 36 #[x.v] (.int .i64 (stepS x)) := by
  intro w
  have cW := Words_any x.word
  have hv : wordsV x.word = .tuple #[.int .i64 (((wordsS x.word).getD 0 : Nat) : Int), .bool (wordsS x.word).isSome] := rfl
  rw [hv] at cW
  have hst : stepS x = match wordsS x.word with
    | none => 12
    | some k => if okN x k 0 && okN x k 1 && okN x k 2 && okN x k 3 then 0 else 1 := rfl
  rw [hst]
  clear hv hst
  have hru := fun (W : World) (m : Nat) (hm : m < 4) => run_num W x m hm
  simp only [Act5.v, Act5.cs]
  cases hw : wordsS x.word with
  | none =>
    rw [hw] at cW
    simp only [Option.getD_none, Option.isSome_none] at cW ⊢
    clear hru
    go_enter Try.func36, Try.ntmps36
    go_wp2_with (go_at_call 11; with_reducible refine (cW.at _).mono ?_; rintro e w' ⟨rfl, g, rfl⟩)
    go_ret
    exact Ret.mk rfl (by (repeat' (first | (with_reducible exact Below.refl _ _) | (with_reducible refine belowGrU ?_ _) | (with_reducible refine belowAlloc ?_ _) | (with_reducible refine Below.setCell ?_ ?_ _) | (with_reducible refine Below.drew ?_) | (simp [go_sem]; done) | (simp [go_sem]; omega))))
  | some k =>
    rw [hw] at cW
    simp only [Option.getD_some, Option.isSome_some] at cW ⊢
    obtain ⟨R, hR⟩ : ∃ R : Int, (if (okN x k 0 && okN x k 1 && okN x k 2 && okN x k 3) = true then 0 else 1) = R := ⟨_, rfl⟩
    rw [hR]
    have hR1 : (∀ j, j < 4 → okN x k j = true) → R = 0 := fun h => by rw [← hR, h 0 (by omega), h 1 (by omega), h 2 (by omega), h 3 (by omega)]; rfl
    have hR0 : ∀ j, j < 4 → okN x k j = false → R = 1 := fun j hj h => by
      rw [← hR]
      rcases (show j = 0 ∨ j = 1 ∨ j = 2 ∨ j = 3 by omega) with rfl | rfl | rfl | rfl <;> simp [h]
    have H1 := Lib.hid hR1
    have H0 := Lib.hid hR0
    have hok : ∀ j, okN x k j = (decide (-9007199254740992 ≤ x.nth j) && decide (x.nth j ≤ 9007199254740992) && (decide (j < k) || x.nth j == 0)) := fun _ => rfl
    have HO := Lib.hid hok
    clear hR hR1 hR0 hok hw
    generalize okN x k = ok at *
    obtain ⟨nth, hn⟩ : ∃ f, x.nth = f := ⟨_, rfl⟩
    rw [hn] at hru HO
    clear hn
    obtain ⟨x0, x1, x2, x3, x4⟩ := x
    simp only at *
    have HRU := Lib.hid hru
    clear hru
    go_enter Try.func36, Try.ntmps36
    go_wp2_with (go_at_call 11; with_reducible refine (cW.at _).mono ?_; rintro e w' ⟨rfl, g, rfl⟩)
    clear cW
    go_loopw [17] (fun i wr => ∃ m : Nat, m ≤ 4 ∧ i = .int .i64 (m : Int) ∧ Hid (∀ j, j < m → ok j = true) ∧ ∃ g' : Gr, wr = gr (w.alloc (.cells #[.string x0, .int .i64 x1, .int .i64 x2, .int .i64 x3, .int .i64 x4] 40)) g')
      (fun i _ => 4 - (intOf i).toNat)
    case atStart => exact ⟨0, by omega, rfl, fun j hj => by omega, g, rfl⟩
    case round =>
      obtain ⟨m, hm, rfl, hall, g', rfl⟩ := hrel
      by_cases hlt : m < 4
      · have hrun := fun W : World => HRU.out W m hlt
        obtain ⟨z, hz⟩ : ∃ z, nth m = z := ⟨_, rfl⟩
        have ho := HO.out m
        rw [hz] at ho
        simp only [hz] at hrun
        cases hom : ok m
        · rw [hom] at ho
          have hbad : z < -9007199254740992 ∨ 9007199254740992 < z ∨ ((k : Int) ≤ m ∧ z ≠ 0) := by
            have ho' : ¬ ((-9007199254740992 ≤ z ∧ z ≤ 9007199254740992) ∧ (m < k ∨ z = 0)) := by
              intro h
              obtain ⟨⟨h1, h2⟩, h3⟩ := h
              have h4 : (decide (m < k) || z == 0) = true := by
                rcases h3 with h3 | h3 <;> simp [h3]
              rw [h4] at ho
              simp [h1, h2] at ho
            omega
          have HB := Lib.hid (H0.out m hlt hom)
          clear ho hom hz
          go_wp2_with fail
          all_goals (try (exfalso; omega))
          all_goals (try (exfalso; rename_i h; simp at h; omega))
          all_goals go_ret
          all_goals exact Ret.mk (by rw [HB.out]; rfl) (by (repeat' (first | (with_reducible exact Below.refl _ _) | (with_reducible refine belowGrU ?_ _) | (with_reducible refine belowAlloc ?_ _) | (with_reducible refine Below.setCell ?_ ?_ _) | (with_reducible refine Below.drew ?_) | (simp [go_sem]; done) | (simp [go_sem]; omega))))
        · rw [hom] at ho
          have hgood : -9007199254740992 ≤ z ∧ z ≤ 9007199254740992 ∧ ((m : Int) < k ∨ z = 0) := by
            have ho := ho.symm
            simp only [Bool.or_eq_true, Bool.and_eq_true, decide_eq_true_eq, beq_iff_eq] at ho
            omega
          have HG := Lib.hid hom
          obtain ⟨hg1, hg2, hg3⟩ := hgood
          clear ho hom hz
          go_wp2_with fail
          all_goals (try (exfalso; omega))
          all_goals (try (exfalso; rename_i h; simp at h; omega))
          all_goals refine ⟨⟨m + 1, hlt, by go_num, fun j hj => ?_, g', rfl⟩, by simp [intOf]; omega⟩
          all_goals (
            by_cases e : j = m
            · rw [e]; exact HG.out
            · exact hall.out j (by omega))
      · obtain rfl : m = 4 := by omega
        go_wp2_with fail
        go_ret
        exact Ret.mk (by rw [H1.out hall.out]; rfl) (by (repeat' (first | (with_reducible exact Below.refl _ _) | (with_reducible refine belowGrU ?_ _) | (with_reducible refine belowAlloc ?_ _) | (with_reducible refine Below.setCell ?_ ?_ _) | (with_reducible refine Below.drew ?_) | (simp [go_sem]; done) | (simp [go_sem]; omega))))

end Go.Proofs.Ytajionjffijffaa

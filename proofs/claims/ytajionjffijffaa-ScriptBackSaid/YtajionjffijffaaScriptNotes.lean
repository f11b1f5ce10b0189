/-
  A text without its notes has none, and is the same script. For every text.
-/
import Derived.Deep.DeepCutAuto
import Derived.Test.YtajionjffijffaaNotesP
import Derived.Test.YtajionjffijffaaAwake
import Derived.Test.YtajionjffijffaaPlain
import Derived.Test.YtajionjffijffaaSame
import Derived.Test.YtajionjffijffaaReg3
import Derived.Test.YtajionjffijffaaRow
namespace Go.Proofs.Ytajionjffijffaa
open Go.RowKit Go.Sort Go.ChangeShapes Go.WideShapes Go.ChangeAt Go.Joins Go.ChangeMaps

theorem stepsS_bound : ∀ (xs : List Act5) (n : Nat), stepsS n xs = 0 → n ≤ 1000
  | [], n, h => by
    unfold stepsS at h
    split at h
    · cases h
    · omega
  | x :: xs, n, h => by
    unfold stepsS at h
    split at h
    · exact stepsS_bound xs n h
    · contradiction
theorem rightS_bound {gs : List (Int × Int)} {secs : Int} {xs : List Act5} (h : rightS gs secs xs = 0) : gs.length ≤ 4 ∧ xs.length ≤ 1000 := by
  unfold rightS at h
  split at h
  · rename_i hg
    unfold goodL at hg
    simp only [Bool.and_eq_true, decide_eq_true_eq] at hg
    exact ⟨hg.1.1.1.2, stepsS_bound _ _ h⟩
  · cases h
theorem endS_bound (s : ScS) (n : Int) : (endS s n).1.gs.length ≤ 4 ∧ (endS s n).1.xs.length ≤ 1000 := by
  unfold endS
  split
  · simp [noSc]
  · split
    · simp [noSc]
    · rename_i h
      exact rightS_bound (secs := s.secs) (by simpa using h)
theorem parseL_bound : ∀ (ls : List (List UInt8)) (s : ScS) (n : Int), (parseL s n ls).1.gs.length ≤ 4 ∧ (parseL s n ls).1.xs.length ≤ 1000
  | [], s, n => endS_bound s n
  | x :: ls, s, n => by
    rw [parseL]
    split
    · exact parseL_bound ls s _
    · simp only
      split
      · simp [noSc]
      · split
        · exact parseL_bound ls _ _
        · simp [noSc]
theorem parseS_bound (t : ByteArray) : (parseS t).1.gs.length ≤ 4 ∧ (parseS t).1.xs.length ≤ 1000 := by
  unfold parseS
  split
  · simp [noSc]
  · exact parseL_bound _ _ _

/-- two scripts of the same contents in memory -/
structure TwoS (w W : World) (b1 b2 : Nat) (adG1 : Option Addr) (capG1 : Nat) (adL1 : Option Addr) (capL1 : Nat) (adG2 : Option Addr) (capG2 : Nat) (adL2 : Option Addr) (capL2 : Nat) (gs : List (Int × Int)) (secs : Int) (xs : List Act5) (M Z : Nat) : Prop where
  bel : Below w.heap.size w W
  h1 : W.heap[b1]? = some (.cells #[.slice adG1 M capG1, .int .i64 secs, .slice adL1 Z capL1] 28 (0, 0))
  h2 : W.heap[b2]? = some (.cells #[.slice adG2 M capG2, .int .i64 secs, .slice adL2 Z capL2] 28 (0, 0))
  g1 : Rd W 2 M (.slice adG1 M capG1) (flatG gs)
  g2 : Rd W 2 M (.slice adG2 M capG2) (flatG gs)
  l1 : Rd W 5 Z (.slice adL1 Z capL1) (flatA xs)
  l2 : Rd W 5 Z (.slice adL2 Z capL2) (flatA xs)
theorem TwoS.grow {w W W' : World} {b1 b2 : Nat} {adG1 : Option Addr} {capG1 : Nat} {adL1 : Option Addr} {capL1 : Nat} {adG2 : Option Addr} {capG2 : Nat} {adL2 : Option Addr} {capL2 : Nat} {gs : List (Int × Int)} {secs : Int} {xs : List Act5} {M Z : Nat}
    (h : TwoS w W b1 b2 adG1 capG1 adL1 capL1 adG2 capG2 adL2 capL2 gs secs xs M Z) (hb : Below W.heap.size W W') : TwoS w W' b1 b2 adG1 capG1 adL1 capL1 adG2 capG2 adL2 capL2 gs secs xs M Z :=
  ⟨h.bel.trans (hb.mono h.bel.size), (hb.block _ (Array.getElem?_eq_some_iff.1 h.h1).1).trans h.h1, (hb.block _ (Array.getElem?_eq_some_iff.1 h.h2).1).trans h.h2, h.g1.grow hb, h.g2.grow hb, h.l1.grow hb, h.l2.grow hb⟩
theorem TwoS.c1 {w W : World} {b1 b2 : Nat} {adG1 : Option Addr} {capG1 : Nat} {adL1 : Option Addr} {capL1 : Nat} {adG2 : Option Addr} {capG2 : Nat} {adL2 : Option Addr} {capL2 : Nat} {gs : List (Int × Int)} {secs : Int} {xs : List Act5} {M Z : Nat}
    (h : TwoS w W b1 b2 adG1 capG1 adL1 capL1 adG2 capG2 adL2 capL2 gs secs xs M Z) (i : Nat) (u : Value) (hu : (#[.slice adG1 M capG1, .int .i64 secs, .slice adL1 Z capL1] : Array Value)[i]? = some u) : W.cell? ⟨b1, i, none⟩ = some u := by rw [cell_of_row W _ i _ _ _ h.h1]; exact hu
theorem TwoS.c2 {w W : World} {b1 b2 : Nat} {adG1 : Option Addr} {capG1 : Nat} {adL1 : Option Addr} {capL1 : Nat} {adG2 : Option Addr} {capG2 : Nat} {adL2 : Option Addr} {capL2 : Nat} {gs : List (Int × Int)} {secs : Int} {xs : List Act5} {M Z : Nat}
    (h : TwoS w W b1 b2 adG1 capG1 adL1 capL1 adG2 capG2 adL2 capL2 gs secs xs M Z) (i : Nat) (u : Value) (hu : (#[.slice adG2 M capG2, .int .i64 secs, .slice adL2 Z capL2] : Array Value)[i]? = some u) : W.cell? ⟨b2, i, none⟩ = some u := by rw [cell_of_row W _ i _ _ _ h.h2]; exact hu

namespace ScriptNotes

set_option maxRecDepth 100000 in
set_option maxHeartbeats 4000000 in
theorem walk_out (t : ByteArray) (h : 6000 < t.size) : Pure Try.prog 5 #[.string t] (.bool true) := by
  intro w
  have h1 : 6000 < (t.size : Int) := by omega
  go_enter Try.func5, Try.ntmps5
  go_wp2_with (go_at_call 8; with_reducible refine (awake_any.at _).mono ?_; rintro e w' ⟨rfl, g, rfl⟩)
  all_goals (try (exfalso; omega))
  all_goals go_ret
  all_goals exact Ret.mk rfl (by (repeat' (first | (with_reducible exact Below.refl _ _) | (with_reducible refine belowGrU ?_ _) | (with_reducible refine belowAlloc ?_ _) | (with_reducible refine Below.setCell ?_ ?_ _) | (with_reducible refine Below.drew ?_) | (simp [go_sem]; done) | (simp [go_sem]; omega))))

set_option maxRecDepth 100000 in
set_option maxHeartbeats 4000000 in
theorem walk (t : ByteArray) (h : t.size ≤ 6000) : Pure Try.prog 5 #[.string t] (.bool true) := by
  intro w
  have cN1 := Notes_any t (by omega)
  have cP1 := fun W : World => Parse_at t (by omega) W
  have hp := parse_notes t (by omega)
  have hb := parseS_bound t
  have htw := notes_twice t.data.toList
  have hle := notesB_le t.data.toList
  have hno := notes_none t.data.toList
  rw [size_list] at hle
  obtain ⟨U, hU⟩ : ∃ U, ofL (notesB (linesS t.data.toList)) = U := ⟨_, rfl⟩
  have hUl : U.data.toList = notesB (linesS t.data.toList) := by rw [← hU, ofL_list]
  have hUz : U.size ≤ t.size := by rw [← hU, ofL_size]; exact hle
  have cN2 := Notes_any U (by omega)
  have cP2 := fun W : World => Parse_at U (by omega) W
  rw [hU] at hp cN1
  rw [hUl, htw.2, htw.1, hU] at cN2
  rw [hp.1, hp.2] at cP2
  obtain ⟨N, hN⟩ : ∃ N, notesC (linesS t.data.toList) = N := ⟨_, rfl⟩
  have hUt3 : N = 0 → U = t := fun h0 => by
    rw [hno (by rw [hN, h0])] at hU
    rw [← hU]
    exact ofL_self t
  rw [hN] at cN1
  obtain ⟨⟨⟨gs, secs, xs⟩, ln, cl, er⟩, hT⟩ : ∃ T, parseS t = T := ⟨_, rfl⟩
  rw [hT] at cP1 cP2 hb
  obtain ⟨⟨ln2, cl2⟩, hT2⟩ : ∃ T, ((parseS U).2.1, (parseS U).2.2.1) = T := ⟨_, rfl⟩
  have h21 : (parseS U).2.1 = ln2 := congrArg (·.1) hT2
  have h22 : (parseS U).2.2.1 = cl2 := congrArg (·.2) hT2
  rw [h21, h22] at cP2
  simp only at cP1 cP2 hb
  clear hT hT2 h21 h22 hp htw hno hle hN hU hUl
  obtain ⟨M, hM⟩ : ∃ M, gs.length = M := ⟨_, rfl⟩
  obtain ⟨Z, hZ⟩ : ∃ Z, xs.length = Z := ⟨_, rfl⟩
  rw [hM, hZ] at cP1 cP2 hb
  have hM4 := hb.1
  have hZ4 := hb.2
  clear hM hZ hb
  go_enter Try.func5, Try.ntmps5
  go_upto_region 7 with (first
    | (go_at_call 8; with_reducible refine (awake_any.at _).mono ?_; rintro e w' ⟨rfl, g, rfl⟩)
    | (go_at_call 13; with_reducible refine (cN1.at _).mono ?_; rintro e w' ⟨rfl, g2, rfl⟩)
    | (go_at_call 13; with_reducible refine (cN2.at _).mono ?_; rintro e w' ⟨rfl, g3, rfl⟩)
    | (go_at_call 9; with_reducible refine (cP1 _).mono ?_; rintro e W1 ⟨vG1, vL1, rfl, hG1, hL1, hbel1⟩; obtain ⟨adG1, capG1, rfl⟩ := ownsRow_len hG1; obtain ⟨adL1, capL1, rfl⟩ := ownsRow_len hL1)
    | (go_at_call 9; with_reducible refine (cP2 _).mono ?_; rintro e W2 ⟨vG2, vL2, rfl, hG2, hL2, hbel2⟩; obtain ⟨adG2, capG2, rfl⟩ := ownsRow_len hG2; obtain ⟨adL2, capL2, rfl⟩ := ownsRow_len hL2))
  have bb1 : Below w.heap.size w W1 := (below_gr w ((g.seq g2).seq g3)).trans (hbel1.mono (size_le_gr _ _))
  have bb1' := bb1.alloc bb1.size (.cells #[.slice adG1 M capG1, .int .i64 secs, .slice adL1 Z capL1] 28)
  have bb2 := bb1'.trans (hbel2.mono bb1'.size)
  have bb2' := bb2.alloc bb2.size (.cells #[.slice adG2 M capG2, .int .i64 secs, .slice adL2 Z capL2] 28)
  have gr1 : ∀ V : World, Below W1.heap.size W1 V → Rd V 2 M (.slice adG1 M capG1) (flatG gs) ∧ Rd V 5 Z (.slice adL1 Z capL1) (flatA xs) := fun V hV => ⟨(Rd.of_own hG1).grow hV, (Rd.of_own hL1).grow hV⟩
  have gr2 := bel1' W2 (.cells #[.slice adG2 M capG2, .int .i64 secs, .slice adL2 Z capL2] 28)
  have gr12 := (bel1' W1 (.cells #[.slice adG1 M capG1, .int .i64 secs, .slice adL1 Z capL1] 28)).trans (hbel2.mono (by simp))
  have hsz1 : W1.heap.size < W2.heap.size := by have := hbel2.size; simp at this; omega
  have HI := Lib.hid (TwoS.mk bb2' ((Below.heap_alloc W2 _ _ hsz1).trans ((hbel2.block W1.heap.size (by simp)).trans (World.alloc_heap_new W1 _))) (World.alloc_heap_new W2 _) (gr1 _ (gr12.trans (gr2.mono (by omega)))).1 ((Rd.of_own hG2).grow gr2) (gr1 _ (gr12.trans (gr2.mono (by omega)))).2 ((Rd.of_own hL2).grow gr2))
  clear bb1 bb1' bb2 bb2' gr1 gr2 gr12 hsz1 hbel1 hbel2 hG1 hL1 hG2 hL2 cN1 cN2 cP1 cP2
  generalize W2.alloc (.cells #[.slice adG2 M capG2, .int .i64 secs, .slice adL2 Z capL2] 28) = W at HI ⊢
  generalize W1.heap.size = b1 at HI ⊢
  generalize W2.heap.size = b2 at HI ⊢
  have hUt : (U.size : Int) ≤ (t.size : Int) := by omega
  have hM : M < 1000000 := by omega
  have hZ : Z < 1000000 := by omega
  have eg1 : ∀ (args : Array Value) (w : World), (callFunc 15 args).run Try.prog w = .ok (.enter 15 args) w := enters_of Try.func15 (by kernel_rfl) rfl
  have eg2 : ∀ (args : Array Value) (w : World), (callFunc 14 args).run Try.prog w = .ok (.enter 14 args) w := enters_of Try.func14 (by kernel_rfl) rfl
  by_cases hN1 : 0 < N
  ·
    refine (wpIn_wide (n := 3)).1 ?_
    refine wpIn_region_grow (fun V => TwoS w V b1 b2 adG1 capG1 adL1 capL1 adG2 capG2 adL2 capL2 gs secs xs M Z) (fun j v V => (∀ u, ([some (.string U), some (.string U), some (.bool true), some (.bool true), some (.int .i64 0), some (.bool true), some (.bool true), some (.bool true), some (.int .i64 (N : Int)), some (.bool true), some (.bool true), some (.bool true), some (.string U), some (.int .i64 (U.size : Int)), some (.string t), some (.int .i64 (t.size : Int)), some (.bool true), some (.bool true), some (.bool true), some (.int .i64 (N : Int)), some (.bool true), some (.bool true), some (undef), some (undef), some (undef), some (.bool true), some (.bool true), some (.bool true), some (.int .i64 er), some (.int .i64 er), some (.bool true), some (.bool true), some (.bool true), some (.agg #[.slice adG1 M capG1, .int .i64 secs, .slice adL1 Z capL1]), none, some (.agg #[.slice adG2 M capG2, .int .i64 secs, .slice adL2 Z capL2]), none, some (.bool true), some (.bool true), some (.bool true)] : List (Option Value)).getD j none = some u → v = u) ∧ (j = 34 → ∃ u, v = .agg #[.slice adG1 M capG1, .int .i64 secs, u] ∧ Rd V 5 Z u (flatA xs)) ∧ (j = 36 → ∃ u, v = .agg #[.slice adG2 M capG2, .int .i64 secs, u] ∧ Rd V 5 Z u (flatA xs))) (by kernel_rfl) (by kernel_rfl) (by kernel_rfl) ?_ ?_ ⟨?_, ?_, ?_, ?_, ?_, ?_, ?_, ?_, ?_, ?_, ?_, ?_, ?_, ?_, ?_, ?_, ?_, ?_, ?_, ?_, ?_, ?_, ?_, ?_, ?_, ?_, ?_, ?_, ?_, ?_, ?_, ?_, ?_, ?_, ?_, ?_, ?_, ?_, ?_, ?_, trivial⟩ ?_
    · exact fun j v V V' hI hb h => ⟨h.1, fun e => (fun ⟨u, hu, hr⟩ => ⟨u, hu, hr.grow hb⟩) (h.2.1 e), fun e => (fun ⟨u, hu, hr⟩ => ⟨u, hu, hr.grow hb⟩) (h.2.2 e)⟩
    · exact HI.out.grow (Below.drew (Below.refl _ _))
    · intro a V hI hdep hfree
      have e5 := slot_raw (show slot a 5 = .string U from (hfree 5 (by kernel_rfl)).trans rfl)
      exact ok_value (v := .string U) (wanted_none rfl) (by simp [execOp, go_sem, e5]) (by intro c; simp) (fun _ _ => trivial) ⟨_, rfl, hI, Below.refl _ _, ⟨fun u h => Option.some.inj h, fun e => absurd e (by decide), fun e => absurd e (by decide)⟩⟩
    · intro a V hI hdep hfree
      have e3 := slot_raw (show slot a 3 = .string U from (hfree 3 (by kernel_rfl)).trans rfl)
      exact ok_value (v := .string U) (wanted_none rfl) (by simp [execOp, go_sem, e3]) (by intro c; simp) (fun _ _ => trivial) ⟨_, rfl, hI, Below.refl _ _, ⟨fun u h => Option.some.inj h, fun e => absurd e (by decide), fun e => absurd e (by decide)⟩⟩
    · intro a V hI hdep hfree
      have e47 := slot_raw (show slot a 47 = .string U from (hdep 0 (by decide)).1 _ rfl)
      have e48 := slot_raw (show slot a 48 = .string U from (hdep 1 (by decide)).1 _ rfl)
      exact ok_value (v := .bool true) (wanted_none rfl) (by simp [execOp, go_sem, e47, e48]) (by intro c; simp) (fun _ _ => trivial) ⟨_, rfl, hI, Below.refl _ _, ⟨fun u h => Option.some.inj h, fun e => absurd e (by decide), fun e => absurd e (by decide)⟩⟩
    · intro a V hI hdep hfree
      have e49 := slot_raw (show slot a 49 = .bool true from (hdep 2 (by decide)).1 _ rfl)
      exact ok_value (v := .bool true) (wanted_none rfl) (by simp [execOp, go_sem, e49]) (by intro c; simp) (fun _ _ => trivial) ⟨_, rfl, hI, Below.refl _ _, ⟨fun u h => Option.some.inj h, fun e => absurd e (by decide), fun e => absurd e (by decide)⟩⟩
    · intro a V hI hdep hfree
      have gd : slot a 50 = .bool true := (hdep 3 (by decide)).1 _ rfl
      have e6 := slot_raw (show slot a 6 = .int .i64 0 from (hfree 6 (by kernel_rfl)).trans rfl)
      exact ok_value (v := .int .i64 0) (wanted_at (j := 3) rfl rfl gd rfl) (by simp [execOp, go_sem, e6]) (by intro c; simp) (fun _ _ => trivial) ⟨_, rfl, hI, Below.refl _ _, ⟨fun u h => Option.some.inj h, fun e => absurd e (by decide), fun e => absurd e (by decide)⟩⟩
    · intro a V hI hdep hfree
      have gd : slot a 50 = .bool true := (hdep 3 (by decide)).1 _ rfl
      have e51 := slot_raw (show slot a 51 = .int .i64 0 from (hdep 4 (by decide)).1 _ rfl)
      exact ok_value (v := .bool true) (wanted_at (j := 3) rfl rfl gd rfl) (by simp [execOp, go_sem, e51]) (by intro c; simp) (fun _ _ => trivial) ⟨_, rfl, hI, Below.refl _ _, ⟨fun u h => Option.some.inj h, fun e => absurd e (by decide), fun e => absurd e (by decide)⟩⟩
    · intro a V hI hdep hfree
      have e50 := slot_raw (show slot a 50 = .bool true from (hdep 3 (by decide)).1 _ rfl)
      have e52 := slot_raw (show slot a 52 = .bool true from (hdep 5 (by decide)).1 _ rfl)
      exact ok_value (v := .bool true) (wanted_none rfl) (by simp [execOp, go_sem, e50, e52]) (by intro c; simp) (fun _ _ => trivial) ⟨_, rfl, hI, Below.refl _ _, ⟨fun u h => Option.some.inj h, fun e => absurd e (by decide), fun e => absurd e (by decide)⟩⟩
    · intro a V hI hdep hfree
      have e53 := slot_raw (show slot a 53 = .bool true from (hdep 6 (by decide)).1 _ rfl)
      exact ok_value (v := .bool true) (wanted_none rfl) (by simp [execOp, go_sem, e53]) (by intro c; simp) (fun _ _ => trivial) ⟨_, rfl, hI, Below.refl _ _, ⟨fun u h => Option.some.inj h, fun e => absurd e (by decide), fun e => absurd e (by decide)⟩⟩
    · intro a V hI hdep hfree
      have gd : slot a 54 = .bool true := (hdep 7 (by decide)).1 _ rfl
      have e4 := slot_raw (show slot a 4 = .int .i64 (N : Int) from (hfree 4 (by kernel_rfl)).trans rfl)
      exact ok_value (v := .int .i64 (N : Int)) (wanted_at (j := 7) rfl rfl gd rfl) (by simp [execOp, go_sem, e4]) (by intro c; simp) (fun _ _ => trivial) ⟨_, rfl, hI, Below.refl _ _, ⟨fun u h => Option.some.inj h, fun e => absurd e (by decide), fun e => absurd e (by decide)⟩⟩
    · intro a V hI hdep hfree
      have gd : slot a 54 = .bool true := (hdep 7 (by decide)).1 _ rfl
      have e55 := slot_raw (show slot a 55 = .int .i64 (N : Int) from (hdep 8 (by decide)).1 _ rfl)
      exact ok_value (v := .bool true) (wanted_at (j := 7) rfl rfl gd rfl) (by simp [execOp, go_sem, e55]) (by intro c; simp) (fun _ _ => trivial) ⟨_, rfl, hI, Below.refl _ _, ⟨fun u h => Option.some.inj h, fun e => absurd e (by decide), fun e => absurd e (by decide)⟩⟩
    · intro a V hI hdep hfree
      have e54 := slot_raw (show slot a 54 = .bool true from (hdep 7 (by decide)).1 _ rfl)
      have e56 := slot_raw (show slot a 56 = .bool true from (hdep 9 (by decide)).1 _ rfl)
      exact ok_value (v := .bool true) (wanted_none rfl) (by simp [execOp, go_sem, e54, e56]) (by intro c; simp) (fun _ _ => trivial) ⟨_, rfl, hI, Below.refl _ _, ⟨fun u h => Option.some.inj h, fun e => absurd e (by decide), fun e => absurd e (by decide)⟩⟩
    · intro a V hI hdep hfree
      have e57 := slot_raw (show slot a 57 = .bool true from (hdep 10 (by decide)).1 _ rfl)
      exact ok_value (v := .bool true) (wanted_none rfl) (by simp [execOp, go_sem, e57]) (by intro c; simp) (fun _ _ => trivial) ⟨_, rfl, hI, Below.refl _ _, ⟨fun u h => Option.some.inj h, fun e => absurd e (by decide), fun e => absurd e (by decide)⟩⟩
    · intro a V hI hdep hfree
      have gd : slot a 58 = .bool true := (hdep 11 (by decide)).1 _ rfl
      have e3 := slot_raw (show slot a 3 = .string U from (hfree 3 (by kernel_rfl)).trans rfl)
      exact ok_value (v := .string U) (wanted_at (j := 11) rfl rfl gd rfl) (by simp [execOp, go_sem, e3]) (by intro c; simp) (fun _ _ => trivial) ⟨_, rfl, hI, Below.refl _ _, ⟨fun u h => Option.some.inj h, fun e => absurd e (by decide), fun e => absurd e (by decide)⟩⟩
    · intro a V hI hdep hfree
      have gd : slot a 58 = .bool true := (hdep 11 (by decide)).1 _ rfl
      have e59 := slot_raw (show slot a 59 = .string U from (hdep 12 (by decide)).1 _ rfl)
      exact ok_value (v := .int .i64 (U.size : Int)) (wanted_at (j := 11) rfl rfl gd rfl) (by simp [go_sem, e59]) (by intro c; simp) (fun _ _ => trivial) ⟨_, rfl, hI, Below.refl _ _, ⟨fun u h => Option.some.inj h, fun e => absurd e (by decide), fun e => absurd e (by decide)⟩⟩
    · intro a V hI hdep hfree
      have gd : slot a 58 = .bool true := (hdep 11 (by decide)).1 _ rfl
      have e0 := slot_raw (show slot a 0 = .string t from (hfree 0 (by kernel_rfl)).trans rfl)
      exact ok_value (v := .string t) (wanted_at (j := 11) rfl rfl gd rfl) (by simp [execOp, go_sem, e0]) (by intro c; simp) (fun _ _ => trivial) ⟨_, rfl, hI, Below.refl _ _, ⟨fun u h => Option.some.inj h, fun e => absurd e (by decide), fun e => absurd e (by decide)⟩⟩
    · intro a V hI hdep hfree
      have gd : slot a 58 = .bool true := (hdep 11 (by decide)).1 _ rfl
      have e61 := slot_raw (show slot a 61 = .string t from (hdep 14 (by decide)).1 _ rfl)
      exact ok_value (v := .int .i64 (t.size : Int)) (wanted_at (j := 11) rfl rfl gd rfl) (by simp [go_sem, e61]) (by intro c; simp) (fun _ _ => trivial) ⟨_, rfl, hI, Below.refl _ _, ⟨fun u h => Option.some.inj h, fun e => absurd e (by decide), fun e => absurd e (by decide)⟩⟩
    · intro a V hI hdep hfree
      have gd : slot a 58 = .bool true := (hdep 11 (by decide)).1 _ rfl
      have e60 := slot_raw (show slot a 60 = .int .i64 (U.size : Int) from (hdep 13 (by decide)).1 _ rfl)
      have e62 := slot_raw (show slot a 62 = .int .i64 (t.size : Int) from (hdep 15 (by decide)).1 _ rfl)
      exact ok_value (v := .bool true) (wanted_at (j := 11) rfl rfl gd rfl) (by simp [execOp, go_sem, e60, e62, hUt]) (by intro c; simp) (fun _ _ => trivial) ⟨_, rfl, hI, Below.refl _ _, ⟨fun u h => Option.some.inj h, fun e => absurd e (by decide), fun e => absurd e (by decide)⟩⟩
    · intro a V hI hdep hfree
      have e58 := slot_raw (show slot a 58 = .bool true from (hdep 11 (by decide)).1 _ rfl)
      have e63 := slot_raw (show slot a 63 = .bool true from (hdep 16 (by decide)).1 _ rfl)
      exact ok_value (v := .bool true) (wanted_none rfl) (by simp [execOp, go_sem, e58, e63]) (by intro c; simp) (fun _ _ => trivial) ⟨_, rfl, hI, Below.refl _ _, ⟨fun u h => Option.some.inj h, fun e => absurd e (by decide), fun e => absurd e (by decide)⟩⟩
    · intro a V hI hdep hfree
      have e64 := slot_raw (show slot a 64 = .bool true from (hdep 17 (by decide)).1 _ rfl)
      exact ok_value (v := .bool true) (wanted_none rfl) (by simp [execOp, go_sem, e64]) (by intro c; simp) (fun _ _ => trivial) ⟨_, rfl, hI, Below.refl _ _, ⟨fun u h => Option.some.inj h, fun e => absurd e (by decide), fun e => absurd e (by decide)⟩⟩
    · intro a V hI hdep hfree
      have gd : slot a 65 = .bool true := (hdep 18 (by decide)).1 _ rfl
      have e4 := slot_raw (show slot a 4 = .int .i64 (N : Int) from (hfree 4 (by kernel_rfl)).trans rfl)
      exact ok_value (v := .int .i64 (N : Int)) (wanted_at (j := 18) rfl rfl gd rfl) (by simp [execOp, go_sem, e4]) (by intro c; simp) (fun _ _ => trivial) ⟨_, rfl, hI, Below.refl _ _, ⟨fun u h => Option.some.inj h, fun e => absurd e (by decide), fun e => absurd e (by decide)⟩⟩
    · intro a V hI hdep hfree
      have gd : slot a 65 = .bool true := (hdep 18 (by decide)).1 _ rfl
      have e66 := slot_raw (show slot a 66 = .int .i64 (N : Int) from (hdep 19 (by decide)).1 _ rfl)
      exact ok_value (v := .bool true) (wanted_at (j := 18) rfl rfl gd rfl) (by simp [execOp, go_sem, e66, hN1]) (by intro c; simp) (fun _ _ => trivial) ⟨_, rfl, hI, Below.refl _ _, ⟨fun u h => Option.some.inj h, fun e => absurd e (by decide), fun e => absurd e (by decide)⟩⟩
    · intro a V hI hdep hfree
      have gd : slot a 65 = .bool true := (hdep 18 (by decide)).1 _ rfl
      have e67 := slot_raw (show slot a 67 = .bool true from (hdep 20 (by decide)).1 _ rfl)
      exact ok_value (v := .bool true) (wanted_at (j := 18) rfl rfl gd rfl) (by simp [execOp, go_sem, e67]) (by intro c; simp) (fun _ _ => trivial) ⟨_, rfl, hI, Below.refl _ _, ⟨fun u h => Option.some.inj h, fun e => absurd e (by decide), fun e => absurd e (by decide)⟩⟩
    · intro a V hI hdep hfree
      have gd : slot a 68 = .bool true := (hdep 21 (by decide)).1 _ rfl
      exact ok_skip (wanted_at (j := 21) rfl rfl gd rfl) (fun _ _ => trivial) ⟨undef, rfl, hI, Below.refl _ _, ⟨fun u h => Option.some.inj h, fun e => absurd e (by decide), fun e => absurd e (by decide)⟩⟩
    · intro a V hI hdep hfree
      have gd : slot a 68 = .bool true := (hdep 21 (by decide)).1 _ rfl
      exact ok_skip (wanted_at (j := 21) rfl rfl gd rfl) (fun _ _ => trivial) ⟨undef, rfl, hI, Below.refl _ _, ⟨fun u h => Option.some.inj h, fun e => absurd e (by decide), fun e => absurd e (by decide)⟩⟩
    · intro a V hI hdep hfree
      have gd : slot a 68 = .bool true := (hdep 21 (by decide)).1 _ rfl
      exact ok_skip (wanted_at (j := 21) rfl rfl gd rfl) (fun _ _ => trivial) ⟨undef, rfl, hI, Below.refl _ _, ⟨fun u h => Option.some.inj h, fun e => absurd e (by decide), fun e => absurd e (by decide)⟩⟩
    · intro a V hI hdep hfree
      have gd : slot a 65 = .bool true := (hdep 18 (by decide)).1 _ rfl
      have e68 := slot_raw (show slot a 68 = .bool true from (hdep 21 (by decide)).1 _ rfl)
      have e71 := slot_raw (show slot a 71 = undef from (hdep 24 (by decide)).1 _ rfl)
      exact ok_value (v := .bool true) (wanted_at (j := 18) rfl rfl gd rfl) (by simp [execOp, go_sem, e68, e71]) (by intro c; simp) (fun _ _ => trivial) ⟨_, rfl, hI, Below.refl _ _, ⟨fun u h => Option.some.inj h, fun e => absurd e (by decide), fun e => absurd e (by decide)⟩⟩
    · intro a V hI hdep hfree
      have e65 := slot_raw (show slot a 65 = .bool true from (hdep 18 (by decide)).1 _ rfl)
      have e72 := slot_raw (show slot a 72 = .bool true from (hdep 25 (by decide)).1 _ rfl)
      exact ok_value (v := .bool true) (wanted_none rfl) (by simp [execOp, go_sem, e65, e72]) (by intro c; simp) (fun _ _ => trivial) ⟨_, rfl, hI, Below.refl _ _, ⟨fun u h => Option.some.inj h, fun e => absurd e (by decide), fun e => absurd e (by decide)⟩⟩
    · intro a V hI hdep hfree
      have e73 := slot_raw (show slot a 73 = .bool true from (hdep 26 (by decide)).1 _ rfl)
      exact ok_value (v := .bool true) (wanted_none rfl) (by simp [execOp, go_sem, e73]) (by intro c; simp) (fun _ _ => trivial) ⟨_, rfl, hI, Below.refl _ _, ⟨fun u h => Option.some.inj h, fun e => absurd e (by decide), fun e => absurd e (by decide)⟩⟩
    · intro a V hI hdep hfree
      have gd : slot a 74 = .bool true := (hdep 27 (by decide)).1 _ rfl
      have e10 := slot_raw (show slot a 10 = .int .i64 er from (hfree 10 (by kernel_rfl)).trans rfl)
      exact ok_value (v := .int .i64 er) (wanted_at (j := 27) rfl rfl gd rfl) (by simp [execOp, go_sem, e10]) (by intro c; simp) (fun _ _ => trivial) ⟨_, rfl, hI, Below.refl _ _, ⟨fun u h => Option.some.inj h, fun e => absurd e (by decide), fun e => absurd e (by decide)⟩⟩
    · intro a V hI hdep hfree
      have gd : slot a 74 = .bool true := (hdep 27 (by decide)).1 _ rfl
      have e14 := slot_raw (show slot a 14 = .int .i64 er from (hfree 14 (by kernel_rfl)).trans rfl)
      exact ok_value (v := .int .i64 er) (wanted_at (j := 27) rfl rfl gd rfl) (by simp [execOp, go_sem, e14]) (by intro c; simp) (fun _ _ => trivial) ⟨_, rfl, hI, Below.refl _ _, ⟨fun u h => Option.some.inj h, fun e => absurd e (by decide), fun e => absurd e (by decide)⟩⟩
    · intro a V hI hdep hfree
      have gd : slot a 74 = .bool true := (hdep 27 (by decide)).1 _ rfl
      have e75 := slot_raw (show slot a 75 = .int .i64 er from (hdep 28 (by decide)).1 _ rfl)
      have e76 := slot_raw (show slot a 76 = .int .i64 er from (hdep 29 (by decide)).1 _ rfl)
      exact ok_value (v := .bool true) (wanted_at (j := 27) rfl rfl gd rfl) (by simp [execOp, go_sem, e75, e76]) (by intro c; simp) (fun _ _ => trivial) ⟨_, rfl, hI, Below.refl _ _, ⟨fun u h => Option.some.inj h, fun e => absurd e (by decide), fun e => absurd e (by decide)⟩⟩
    · intro a V hI hdep hfree
      have e74 := slot_raw (show slot a 74 = .bool true from (hdep 27 (by decide)).1 _ rfl)
      have e77 := slot_raw (show slot a 77 = .bool true from (hdep 30 (by decide)).1 _ rfl)
      exact ok_value (v := .bool true) (wanted_none rfl) (by simp [execOp, go_sem, e74, e77]) (by intro c; simp) (fun _ _ => trivial) ⟨_, rfl, hI, Below.refl _ _, ⟨fun u h => Option.some.inj h, fun e => absurd e (by decide), fun e => absurd e (by decide)⟩⟩
    · intro a V hI hdep hfree
      have e78 := slot_raw (show slot a 78 = .bool true from (hdep 31 (by decide)).1 _ rfl)
      exact ok_value (v := .bool true) (wanted_none rfl) (by simp [execOp, go_sem, e78]) (by intro c; simp) (fun _ _ => trivial) ⟨_, rfl, hI, Below.refl _ _, ⟨fun u h => Option.some.inj h, fun e => absurd e (by decide), fun e => absurd e (by decide)⟩⟩
    · intro a V hI hdep hfree
      have gd : slot a 79 = .bool true := (hdep 32 (by decide)).1 _ rfl
      have e7 := slot_raw (show slot a 7 = .pointer (some ⟨b1, 0, none⟩) from (hfree 7 (by kernel_rfl)).trans rfl)
      have c0 : V.cell? ⟨b1, 0, none⟩ = _ := hI.c1 0 _ rfl
      have c1 : V.cell? ⟨b1, 1, none⟩ = _ := hI.c1 1 _ rfl
      have c2 : V.cell? ⟨b1, 2, none⟩ = _ := hI.c1 2 _ rfl
      exact ok_value (v := .agg #[.slice adG1 M capG1, .int .i64 secs, .slice adL1 Z capL1]) (wanted_at (j := 32) rfl rfl gd rfl) (by simp [execOp, go_sem, e7, c0, c1, c2]) (by intro c; simp) (fun _ _ => trivial) ⟨_, rfl, hI, Below.refl _ _, ⟨fun u h => Option.some.inj h, fun e => absurd e (by decide), fun e => absurd e (by decide)⟩⟩
    · intro a V hI hdep hfree
      have gd : slot a 79 = .bool true := (hdep 32 (by decide)).1 _ rfl
      have e80 := slot_raw (show slot a 80 = .agg #[.slice adG1 M capG1, .int .i64 secs, .slice adL1 Z capL1] from (hdep 33 (by decide)).1 _ rfl)
      refine ok_call (wanted_at (j := 32) rfl rfl gd rfl) (f := 15) (args := #[.agg #[.slice adG1 M capG1, .int .i64 secs, .slice adL1 Z capL1]]) (by simp [go_sem, e80, eg1]) (by intro c; simp) ((plain_at V adG1 M capG1 _ secs xs Z hI.l1 hZ).mono ?_)
      rintro e V2 ⟨vL', rfl, hown, hb⟩
      exact ⟨_, rfl, _, rfl, hI.grow hb, hb, ⟨fun u h => (by cases h), fun _ => ⟨vL', rfl, Rd.of_own hown⟩, fun e => absurd e (by decide)⟩⟩
    · intro a V hI hdep hfree
      have gd : slot a 79 = .bool true := (hdep 32 (by decide)).1 _ rfl
      have e11 := slot_raw (show slot a 11 = .pointer (some ⟨b2, 0, none⟩) from (hfree 11 (by kernel_rfl)).trans rfl)
      have c0 : V.cell? ⟨b2, 0, none⟩ = _ := hI.c2 0 _ rfl
      have c1 : V.cell? ⟨b2, 1, none⟩ = _ := hI.c2 1 _ rfl
      have c2 : V.cell? ⟨b2, 2, none⟩ = _ := hI.c2 2 _ rfl
      exact ok_value (v := .agg #[.slice adG2 M capG2, .int .i64 secs, .slice adL2 Z capL2]) (wanted_at (j := 32) rfl rfl gd rfl) (by simp [execOp, go_sem, e11, c0, c1, c2]) (by intro c; simp) (fun _ _ => trivial) ⟨_, rfl, hI, Below.refl _ _, ⟨fun u h => Option.some.inj h, fun e => absurd e (by decide), fun e => absurd e (by decide)⟩⟩
    · intro a V hI hdep hfree
      have gd : slot a 79 = .bool true := (hdep 32 (by decide)).1 _ rfl
      have e82 := slot_raw (show slot a 82 = .agg #[.slice adG2 M capG2, .int .i64 secs, .slice adL2 Z capL2] from (hdep 35 (by decide)).1 _ rfl)
      refine ok_call (wanted_at (j := 32) rfl rfl gd rfl) (f := 15) (args := #[.agg #[.slice adG2 M capG2, .int .i64 secs, .slice adL2 Z capL2]]) (by simp [go_sem, e82, eg1]) (by intro c; simp) ((plain_at V adG2 M capG2 _ secs xs Z hI.l2 hZ).mono ?_)
      rintro e V2 ⟨vL', rfl, hown, hb⟩
      exact ⟨_, rfl, _, rfl, hI.grow hb, hb, ⟨fun u h => (by cases h), fun e => absurd e (by decide), fun _ => ⟨vL', rfl, Rd.of_own hown⟩⟩⟩
    · intro a V hI hdep hfree
      have gd : slot a 79 = .bool true := (hdep 32 (by decide)).1 _ rfl
      obtain ⟨u1, q81, r81⟩ := (hdep 34 (by decide)).2.1 rfl
      obtain ⟨u2, q83, r83⟩ := (hdep 36 (by decide)).2.2 rfl
      have e81 := slot_raw (show slot a 81 = _ from q81)
      have e83 := slot_raw (show slot a 83 = _ from q83)
      refine ok_call (wanted_at (j := 32) rfl rfl gd rfl) (f := 14) (args := #[.agg #[.slice adG1 M capG1, .int .i64 secs, u1], .agg #[.slice adG2 M capG2, .int .i64 secs, u2]]) (by simp [go_sem, eg2, e81, e83]) (by intro c; simp) ((same_at V _ _ _ _ secs gs xs M Z hI.g1 r81 hI.g2 r83 hM hZ).mono ?_)
      rintro e V2 ⟨rfl, hb⟩
      exact ⟨_, rfl, _, rfl, hI.grow hb, hb, ⟨fun u h => Option.some.inj h, fun e => absurd e (by decide), fun e => absurd e (by decide)⟩⟩
    · intro a V hI hdep hfree
      have e79 := slot_raw (show slot a 79 = .bool true from (hdep 32 (by decide)).1 _ rfl)
      have e84 := slot_raw (show slot a 84 = .bool true from (hdep 37 (by decide)).1 _ rfl)
      exact ok_value (v := .bool true) (wanted_none rfl) (by simp [execOp, go_sem, e79, e84]) (by intro c; simp) (fun _ _ => trivial) ⟨_, rfl, hI, Below.refl _ _, ⟨fun u h => Option.some.inj h, fun e => absurd e (by decide), fun e => absurd e (by decide)⟩⟩
    · intro a V hI hdep hfree
      have e85 := slot_raw (show slot a 85 = .bool true from (hdep 38 (by decide)).1 _ rfl)
      exact ok_value (v := .bool true) (wanted_none rfl) (by simp [execOp, go_sem, e85]) (by intro c; simp) (fun _ _ => trivial) ⟨_, rfl, hI, Below.refl _ _, ⟨fun u h => Option.some.inj h, fun e => absurd e (by decide), fun e => absurd e (by decide)⟩⟩
    · intro a2 V hsz hdf hrest hval hI2
      have e2 : a2.tmps.getD 2 undef = .bool true := (hval 39 (by decide)).1 _ rfl
      have hbel := hI2.bel
      gi_wp2_with fail
      go_wp2_with fail
      refine bodyPost_ret (results_tmp rfl _ _ _) hdf (Ret.mk e2 hbel)
  · have hN2 : N = 0 := by omega
    have hUt2 := hUt3 (by omega)
    refine (wpIn_wide (n := 3)).1 ?_
    refine wpIn_region_grow (fun V => TwoS w V b1 b2 adG1 capG1 adL1 capL1 adG2 capG2 adL2 capL2 gs secs xs M Z) (fun j v V => (∀ u, ([some (.string U), some (.string U), some (.bool true), some (.bool true), some (.int .i64 0), some (.bool true), some (.bool true), some (.bool true), some (.int .i64 (N : Int)), some (.bool true), some (.bool true), some (.bool true), some (.string U), some (.int .i64 (U.size : Int)), some (.string t), some (.int .i64 (t.size : Int)), some (.bool true), some (.bool true), some (.bool true), some (.int .i64 (N : Int)), some (.bool false), some (.bool false), some (.string U), some (.string t), some (.bool true), some (.bool true), some (.bool true), some (.bool true), some (.int .i64 er), some (.int .i64 er), some (.bool true), some (.bool true), some (.bool true), some (.agg #[.slice adG1 M capG1, .int .i64 secs, .slice adL1 Z capL1]), none, some (.agg #[.slice adG2 M capG2, .int .i64 secs, .slice adL2 Z capL2]), none, some (.bool true), some (.bool true), some (.bool true)] : List (Option Value)).getD j none = some u → v = u) ∧ (j = 34 → ∃ u, v = .agg #[.slice adG1 M capG1, .int .i64 secs, u] ∧ Rd V 5 Z u (flatA xs)) ∧ (j = 36 → ∃ u, v = .agg #[.slice adG2 M capG2, .int .i64 secs, u] ∧ Rd V 5 Z u (flatA xs))) (by kernel_rfl) (by kernel_rfl) (by kernel_rfl) ?_ ?_ ⟨?_, ?_, ?_, ?_, ?_, ?_, ?_, ?_, ?_, ?_, ?_, ?_, ?_, ?_, ?_, ?_, ?_, ?_, ?_, ?_, ?_, ?_, ?_, ?_, ?_, ?_, ?_, ?_, ?_, ?_, ?_, ?_, ?_, ?_, ?_, ?_, ?_, ?_, ?_, ?_, trivial⟩ ?_
    · exact fun j v V V' hI hb h => ⟨h.1, fun e => (fun ⟨u, hu, hr⟩ => ⟨u, hu, hr.grow hb⟩) (h.2.1 e), fun e => (fun ⟨u, hu, hr⟩ => ⟨u, hu, hr.grow hb⟩) (h.2.2 e)⟩
    · exact HI.out.grow (Below.drew (Below.refl _ _))
    · intro a V hI hdep hfree
      have e5 := slot_raw (show slot a 5 = .string U from (hfree 5 (by kernel_rfl)).trans rfl)
      exact ok_value (v := .string U) (wanted_none rfl) (by simp [execOp, go_sem, e5]) (by intro c; simp) (fun _ _ => trivial) ⟨_, rfl, hI, Below.refl _ _, ⟨fun u h => Option.some.inj h, fun e => absurd e (by decide), fun e => absurd e (by decide)⟩⟩
    · intro a V hI hdep hfree
      have e3 := slot_raw (show slot a 3 = .string U from (hfree 3 (by kernel_rfl)).trans rfl)
      exact ok_value (v := .string U) (wanted_none rfl) (by simp [execOp, go_sem, e3]) (by intro c; simp) (fun _ _ => trivial) ⟨_, rfl, hI, Below.refl _ _, ⟨fun u h => Option.some.inj h, fun e => absurd e (by decide), fun e => absurd e (by decide)⟩⟩
    · intro a V hI hdep hfree
      have e47 := slot_raw (show slot a 47 = .string U from (hdep 0 (by decide)).1 _ rfl)
      have e48 := slot_raw (show slot a 48 = .string U from (hdep 1 (by decide)).1 _ rfl)
      exact ok_value (v := .bool true) (wanted_none rfl) (by simp [execOp, go_sem, e47, e48]) (by intro c; simp) (fun _ _ => trivial) ⟨_, rfl, hI, Below.refl _ _, ⟨fun u h => Option.some.inj h, fun e => absurd e (by decide), fun e => absurd e (by decide)⟩⟩
    · intro a V hI hdep hfree
      have e49 := slot_raw (show slot a 49 = .bool true from (hdep 2 (by decide)).1 _ rfl)
      exact ok_value (v := .bool true) (wanted_none rfl) (by simp [execOp, go_sem, e49]) (by intro c; simp) (fun _ _ => trivial) ⟨_, rfl, hI, Below.refl _ _, ⟨fun u h => Option.some.inj h, fun e => absurd e (by decide), fun e => absurd e (by decide)⟩⟩
    · intro a V hI hdep hfree
      have gd : slot a 50 = .bool true := (hdep 3 (by decide)).1 _ rfl
      have e6 := slot_raw (show slot a 6 = .int .i64 0 from (hfree 6 (by kernel_rfl)).trans rfl)
      exact ok_value (v := .int .i64 0) (wanted_at (j := 3) rfl rfl gd rfl) (by simp [execOp, go_sem, e6]) (by intro c; simp) (fun _ _ => trivial) ⟨_, rfl, hI, Below.refl _ _, ⟨fun u h => Option.some.inj h, fun e => absurd e (by decide), fun e => absurd e (by decide)⟩⟩
    · intro a V hI hdep hfree
      have gd : slot a 50 = .bool true := (hdep 3 (by decide)).1 _ rfl
      have e51 := slot_raw (show slot a 51 = .int .i64 0 from (hdep 4 (by decide)).1 _ rfl)
      exact ok_value (v := .bool true) (wanted_at (j := 3) rfl rfl gd rfl) (by simp [execOp, go_sem, e51]) (by intro c; simp) (fun _ _ => trivial) ⟨_, rfl, hI, Below.refl _ _, ⟨fun u h => Option.some.inj h, fun e => absurd e (by decide), fun e => absurd e (by decide)⟩⟩
    · intro a V hI hdep hfree
      have e50 := slot_raw (show slot a 50 = .bool true from (hdep 3 (by decide)).1 _ rfl)
      have e52 := slot_raw (show slot a 52 = .bool true from (hdep 5 (by decide)).1 _ rfl)
      exact ok_value (v := .bool true) (wanted_none rfl) (by simp [execOp, go_sem, e50, e52]) (by intro c; simp) (fun _ _ => trivial) ⟨_, rfl, hI, Below.refl _ _, ⟨fun u h => Option.some.inj h, fun e => absurd e (by decide), fun e => absurd e (by decide)⟩⟩
    · intro a V hI hdep hfree
      have e53 := slot_raw (show slot a 53 = .bool true from (hdep 6 (by decide)).1 _ rfl)
      exact ok_value (v := .bool true) (wanted_none rfl) (by simp [execOp, go_sem, e53]) (by intro c; simp) (fun _ _ => trivial) ⟨_, rfl, hI, Below.refl _ _, ⟨fun u h => Option.some.inj h, fun e => absurd e (by decide), fun e => absurd e (by decide)⟩⟩
    · intro a V hI hdep hfree
      have gd : slot a 54 = .bool true := (hdep 7 (by decide)).1 _ rfl
      have e4 := slot_raw (show slot a 4 = .int .i64 (N : Int) from (hfree 4 (by kernel_rfl)).trans rfl)
      exact ok_value (v := .int .i64 (N : Int)) (wanted_at (j := 7) rfl rfl gd rfl) (by simp [execOp, go_sem, e4]) (by intro c; simp) (fun _ _ => trivial) ⟨_, rfl, hI, Below.refl _ _, ⟨fun u h => Option.some.inj h, fun e => absurd e (by decide), fun e => absurd e (by decide)⟩⟩
    · intro a V hI hdep hfree
      have gd : slot a 54 = .bool true := (hdep 7 (by decide)).1 _ rfl
      have e55 := slot_raw (show slot a 55 = .int .i64 (N : Int) from (hdep 8 (by decide)).1 _ rfl)
      exact ok_value (v := .bool true) (wanted_at (j := 7) rfl rfl gd rfl) (by simp [execOp, go_sem, e55]) (by intro c; simp) (fun _ _ => trivial) ⟨_, rfl, hI, Below.refl _ _, ⟨fun u h => Option.some.inj h, fun e => absurd e (by decide), fun e => absurd e (by decide)⟩⟩
    · intro a V hI hdep hfree
      have e54 := slot_raw (show slot a 54 = .bool true from (hdep 7 (by decide)).1 _ rfl)
      have e56 := slot_raw (show slot a 56 = .bool true from (hdep 9 (by decide)).1 _ rfl)
      exact ok_value (v := .bool true) (wanted_none rfl) (by simp [execOp, go_sem, e54, e56]) (by intro c; simp) (fun _ _ => trivial) ⟨_, rfl, hI, Below.refl _ _, ⟨fun u h => Option.some.inj h, fun e => absurd e (by decide), fun e => absurd e (by decide)⟩⟩
    · intro a V hI hdep hfree
      have e57 := slot_raw (show slot a 57 = .bool true from (hdep 10 (by decide)).1 _ rfl)
      exact ok_value (v := .bool true) (wanted_none rfl) (by simp [execOp, go_sem, e57]) (by intro c; simp) (fun _ _ => trivial) ⟨_, rfl, hI, Below.refl _ _, ⟨fun u h => Option.some.inj h, fun e => absurd e (by decide), fun e => absurd e (by decide)⟩⟩
    · intro a V hI hdep hfree
      have gd : slot a 58 = .bool true := (hdep 11 (by decide)).1 _ rfl
      have e3 := slot_raw (show slot a 3 = .string U from (hfree 3 (by kernel_rfl)).trans rfl)
      exact ok_value (v := .string U) (wanted_at (j := 11) rfl rfl gd rfl) (by simp [execOp, go_sem, e3]) (by intro c; simp) (fun _ _ => trivial) ⟨_, rfl, hI, Below.refl _ _, ⟨fun u h => Option.some.inj h, fun e => absurd e (by decide), fun e => absurd e (by decide)⟩⟩
    · intro a V hI hdep hfree
      have gd : slot a 58 = .bool true := (hdep 11 (by decide)).1 _ rfl
      have e59 := slot_raw (show slot a 59 = .string U from (hdep 12 (by decide)).1 _ rfl)
      exact ok_value (v := .int .i64 (U.size : Int)) (wanted_at (j := 11) rfl rfl gd rfl) (by simp [go_sem, e59]) (by intro c; simp) (fun _ _ => trivial) ⟨_, rfl, hI, Below.refl _ _, ⟨fun u h => Option.some.inj h, fun e => absurd e (by decide), fun e => absurd e (by decide)⟩⟩
    · intro a V hI hdep hfree
      have gd : slot a 58 = .bool true := (hdep 11 (by decide)).1 _ rfl
      have e0 := slot_raw (show slot a 0 = .string t from (hfree 0 (by kernel_rfl)).trans rfl)
      exact ok_value (v := .string t) (wanted_at (j := 11) rfl rfl gd rfl) (by simp [execOp, go_sem, e0]) (by intro c; simp) (fun _ _ => trivial) ⟨_, rfl, hI, Below.refl _ _, ⟨fun u h => Option.some.inj h, fun e => absurd e (by decide), fun e => absurd e (by decide)⟩⟩
    · intro a V hI hdep hfree
      have gd : slot a 58 = .bool true := (hdep 11 (by decide)).1 _ rfl
      have e61 := slot_raw (show slot a 61 = .string t from (hdep 14 (by decide)).1 _ rfl)
      exact ok_value (v := .int .i64 (t.size : Int)) (wanted_at (j := 11) rfl rfl gd rfl) (by simp [go_sem, e61]) (by intro c; simp) (fun _ _ => trivial) ⟨_, rfl, hI, Below.refl _ _, ⟨fun u h => Option.some.inj h, fun e => absurd e (by decide), fun e => absurd e (by decide)⟩⟩
    · intro a V hI hdep hfree
      have gd : slot a 58 = .bool true := (hdep 11 (by decide)).1 _ rfl
      have e60 := slot_raw (show slot a 60 = .int .i64 (U.size : Int) from (hdep 13 (by decide)).1 _ rfl)
      have e62 := slot_raw (show slot a 62 = .int .i64 (t.size : Int) from (hdep 15 (by decide)).1 _ rfl)
      exact ok_value (v := .bool true) (wanted_at (j := 11) rfl rfl gd rfl) (by simp [execOp, go_sem, e60, e62, hUt]) (by intro c; simp) (fun _ _ => trivial) ⟨_, rfl, hI, Below.refl _ _, ⟨fun u h => Option.some.inj h, fun e => absurd e (by decide), fun e => absurd e (by decide)⟩⟩
    · intro a V hI hdep hfree
      have e58 := slot_raw (show slot a 58 = .bool true from (hdep 11 (by decide)).1 _ rfl)
      have e63 := slot_raw (show slot a 63 = .bool true from (hdep 16 (by decide)).1 _ rfl)
      exact ok_value (v := .bool true) (wanted_none rfl) (by simp [execOp, go_sem, e58, e63]) (by intro c; simp) (fun _ _ => trivial) ⟨_, rfl, hI, Below.refl _ _, ⟨fun u h => Option.some.inj h, fun e => absurd e (by decide), fun e => absurd e (by decide)⟩⟩
    · intro a V hI hdep hfree
      have e64 := slot_raw (show slot a 64 = .bool true from (hdep 17 (by decide)).1 _ rfl)
      exact ok_value (v := .bool true) (wanted_none rfl) (by simp [execOp, go_sem, e64]) (by intro c; simp) (fun _ _ => trivial) ⟨_, rfl, hI, Below.refl _ _, ⟨fun u h => Option.some.inj h, fun e => absurd e (by decide), fun e => absurd e (by decide)⟩⟩
    · intro a V hI hdep hfree
      have gd : slot a 65 = .bool true := (hdep 18 (by decide)).1 _ rfl
      have e4 := slot_raw (show slot a 4 = .int .i64 (N : Int) from (hfree 4 (by kernel_rfl)).trans rfl)
      exact ok_value (v := .int .i64 (N : Int)) (wanted_at (j := 18) rfl rfl gd rfl) (by simp [execOp, go_sem, e4]) (by intro c; simp) (fun _ _ => trivial) ⟨_, rfl, hI, Below.refl _ _, ⟨fun u h => Option.some.inj h, fun e => absurd e (by decide), fun e => absurd e (by decide)⟩⟩
    · intro a V hI hdep hfree
      have gd : slot a 65 = .bool true := (hdep 18 (by decide)).1 _ rfl
      have e66 := slot_raw (show slot a 66 = .int .i64 (N : Int) from (hdep 19 (by decide)).1 _ rfl)
      exact ok_value (v := .bool false) (wanted_at (j := 18) rfl rfl gd rfl) (by simp [execOp, go_sem, e66, hN2]) (by intro c; simp) (fun _ _ => trivial) ⟨_, rfl, hI, Below.refl _ _, ⟨fun u h => Option.some.inj h, fun e => absurd e (by decide), fun e => absurd e (by decide)⟩⟩
    · intro a V hI hdep hfree
      have gd : slot a 65 = .bool true := (hdep 18 (by decide)).1 _ rfl
      have e67 := slot_raw (show slot a 67 = .bool false from (hdep 20 (by decide)).1 _ rfl)
      exact ok_value (v := .bool false) (wanted_at (j := 18) rfl rfl gd rfl) (by simp [execOp, go_sem, e67]) (by intro c; simp) (fun _ _ => trivial) ⟨_, rfl, hI, Below.refl _ _, ⟨fun u h => Option.some.inj h, fun e => absurd e (by decide), fun e => absurd e (by decide)⟩⟩
    · intro a V hI hdep hfree
      have gd : slot a 68 = .bool false := (hdep 21 (by decide)).1 _ rfl
      have e3 := slot_raw (show slot a 3 = .string U from (hfree 3 (by kernel_rfl)).trans rfl)
      exact ok_value (v := .string U) (wanted_at (j := 21) rfl rfl gd rfl) (by simp [execOp, go_sem, e3]) (by intro c; simp) (fun _ _ => trivial) ⟨_, rfl, hI, Below.refl _ _, ⟨fun u h => Option.some.inj h, fun e => absurd e (by decide), fun e => absurd e (by decide)⟩⟩
    · intro a V hI hdep hfree
      have gd : slot a 68 = .bool false := (hdep 21 (by decide)).1 _ rfl
      have e0 := slot_raw (show slot a 0 = .string t from (hfree 0 (by kernel_rfl)).trans rfl)
      exact ok_value (v := .string t) (wanted_at (j := 21) rfl rfl gd rfl) (by simp [execOp, go_sem, e0]) (by intro c; simp) (fun _ _ => trivial) ⟨_, rfl, hI, Below.refl _ _, ⟨fun u h => Option.some.inj h, fun e => absurd e (by decide), fun e => absurd e (by decide)⟩⟩
    · intro a V hI hdep hfree
      have gd : slot a 68 = .bool false := (hdep 21 (by decide)).1 _ rfl
      have e69 := slot_raw (show slot a 69 = .string U from (hdep 22 (by decide)).1 _ rfl)
      have e70 := slot_raw (show slot a 70 = .string t from (hdep 23 (by decide)).1 _ rfl)
      exact ok_value (v := .bool true) (wanted_at (j := 21) rfl rfl gd rfl) (by simp [execOp, go_sem, e69, e70, hUt2]) (by intro c; simp) (fun _ _ => trivial) ⟨_, rfl, hI, Below.refl _ _, ⟨fun u h => Option.some.inj h, fun e => absurd e (by decide), fun e => absurd e (by decide)⟩⟩
    · intro a V hI hdep hfree
      have gd : slot a 65 = .bool true := (hdep 18 (by decide)).1 _ rfl
      have e68 := slot_raw (show slot a 68 = .bool false from (hdep 21 (by decide)).1 _ rfl)
      have e71 := slot_raw (show slot a 71 = .bool true from (hdep 24 (by decide)).1 _ rfl)
      exact ok_value (v := .bool true) (wanted_at (j := 18) rfl rfl gd rfl) (by simp [execOp, go_sem, e68, e71]) (by intro c; simp) (fun _ _ => trivial) ⟨_, rfl, hI, Below.refl _ _, ⟨fun u h => Option.some.inj h, fun e => absurd e (by decide), fun e => absurd e (by decide)⟩⟩
    · intro a V hI hdep hfree
      have e65 := slot_raw (show slot a 65 = .bool true from (hdep 18 (by decide)).1 _ rfl)
      have e72 := slot_raw (show slot a 72 = .bool true from (hdep 25 (by decide)).1 _ rfl)
      exact ok_value (v := .bool true) (wanted_none rfl) (by simp [execOp, go_sem, e65, e72]) (by intro c; simp) (fun _ _ => trivial) ⟨_, rfl, hI, Below.refl _ _, ⟨fun u h => Option.some.inj h, fun e => absurd e (by decide), fun e => absurd e (by decide)⟩⟩
    · intro a V hI hdep hfree
      have e73 := slot_raw (show slot a 73 = .bool true from (hdep 26 (by decide)).1 _ rfl)
      exact ok_value (v := .bool true) (wanted_none rfl) (by simp [execOp, go_sem, e73]) (by intro c; simp) (fun _ _ => trivial) ⟨_, rfl, hI, Below.refl _ _, ⟨fun u h => Option.some.inj h, fun e => absurd e (by decide), fun e => absurd e (by decide)⟩⟩
    · intro a V hI hdep hfree
      have gd : slot a 74 = .bool true := (hdep 27 (by decide)).1 _ rfl
      have e10 := slot_raw (show slot a 10 = .int .i64 er from (hfree 10 (by kernel_rfl)).trans rfl)
      exact ok_value (v := .int .i64 er) (wanted_at (j := 27) rfl rfl gd rfl) (by simp [execOp, go_sem, e10]) (by intro c; simp) (fun _ _ => trivial) ⟨_, rfl, hI, Below.refl _ _, ⟨fun u h => Option.some.inj h, fun e => absurd e (by decide), fun e => absurd e (by decide)⟩⟩
    · intro a V hI hdep hfree
      have gd : slot a 74 = .bool true := (hdep 27 (by decide)).1 _ rfl
      have e14 := slot_raw (show slot a 14 = .int .i64 er from (hfree 14 (by kernel_rfl)).trans rfl)
      exact ok_value (v := .int .i64 er) (wanted_at (j := 27) rfl rfl gd rfl) (by simp [execOp, go_sem, e14]) (by intro c; simp) (fun _ _ => trivial) ⟨_, rfl, hI, Below.refl _ _, ⟨fun u h => Option.some.inj h, fun e => absurd e (by decide), fun e => absurd e (by decide)⟩⟩
    · intro a V hI hdep hfree
      have gd : slot a 74 = .bool true := (hdep 27 (by decide)).1 _ rfl
      have e75 := slot_raw (show slot a 75 = .int .i64 er from (hdep 28 (by decide)).1 _ rfl)
      have e76 := slot_raw (show slot a 76 = .int .i64 er from (hdep 29 (by decide)).1 _ rfl)
      exact ok_value (v := .bool true) (wanted_at (j := 27) rfl rfl gd rfl) (by simp [execOp, go_sem, e75, e76]) (by intro c; simp) (fun _ _ => trivial) ⟨_, rfl, hI, Below.refl _ _, ⟨fun u h => Option.some.inj h, fun e => absurd e (by decide), fun e => absurd e (by decide)⟩⟩
    · intro a V hI hdep hfree
      have e74 := slot_raw (show slot a 74 = .bool true from (hdep 27 (by decide)).1 _ rfl)
      have e77 := slot_raw (show slot a 77 = .bool true from (hdep 30 (by decide)).1 _ rfl)
      exact ok_value (v := .bool true) (wanted_none rfl) (by simp [execOp, go_sem, e74, e77]) (by intro c; simp) (fun _ _ => trivial) ⟨_, rfl, hI, Below.refl _ _, ⟨fun u h => Option.some.inj h, fun e => absurd e (by decide), fun e => absurd e (by decide)⟩⟩
    · intro a V hI hdep hfree
      have e78 := slot_raw (show slot a 78 = .bool true from (hdep 31 (by decide)).1 _ rfl)
      exact ok_value (v := .bool true) (wanted_none rfl) (by simp [execOp, go_sem, e78]) (by intro c; simp) (fun _ _ => trivial) ⟨_, rfl, hI, Below.refl _ _, ⟨fun u h => Option.some.inj h, fun e => absurd e (by decide), fun e => absurd e (by decide)⟩⟩
    · intro a V hI hdep hfree
      have gd : slot a 79 = .bool true := (hdep 32 (by decide)).1 _ rfl
      have e7 := slot_raw (show slot a 7 = .pointer (some ⟨b1, 0, none⟩) from (hfree 7 (by kernel_rfl)).trans rfl)
      have c0 : V.cell? ⟨b1, 0, none⟩ = _ := hI.c1 0 _ rfl
      have c1 : V.cell? ⟨b1, 1, none⟩ = _ := hI.c1 1 _ rfl
      have c2 : V.cell? ⟨b1, 2, none⟩ = _ := hI.c1 2 _ rfl
      exact ok_value (v := .agg #[.slice adG1 M capG1, .int .i64 secs, .slice adL1 Z capL1]) (wanted_at (j := 32) rfl rfl gd rfl) (by simp [execOp, go_sem, e7, c0, c1, c2]) (by intro c; simp) (fun _ _ => trivial) ⟨_, rfl, hI, Below.refl _ _, ⟨fun u h => Option.some.inj h, fun e => absurd e (by decide), fun e => absurd e (by decide)⟩⟩
    · intro a V hI hdep hfree
      have gd : slot a 79 = .bool true := (hdep 32 (by decide)).1 _ rfl
      have e80 := slot_raw (show slot a 80 = .agg #[.slice adG1 M capG1, .int .i64 secs, .slice adL1 Z capL1] from (hdep 33 (by decide)).1 _ rfl)
      refine ok_call (wanted_at (j := 32) rfl rfl gd rfl) (f := 15) (args := #[.agg #[.slice adG1 M capG1, .int .i64 secs, .slice adL1 Z capL1]]) (by simp [go_sem, e80, eg1]) (by intro c; simp) ((plain_at V adG1 M capG1 _ secs xs Z hI.l1 hZ).mono ?_)
      rintro e V2 ⟨vL', rfl, hown, hb⟩
      exact ⟨_, rfl, _, rfl, hI.grow hb, hb, ⟨fun u h => (by cases h), fun _ => ⟨vL', rfl, Rd.of_own hown⟩, fun e => absurd e (by decide)⟩⟩
    · intro a V hI hdep hfree
      have gd : slot a 79 = .bool true := (hdep 32 (by decide)).1 _ rfl
      have e11 := slot_raw (show slot a 11 = .pointer (some ⟨b2, 0, none⟩) from (hfree 11 (by kernel_rfl)).trans rfl)
      have c0 : V.cell? ⟨b2, 0, none⟩ = _ := hI.c2 0 _ rfl
      have c1 : V.cell? ⟨b2, 1, none⟩ = _ := hI.c2 1 _ rfl
      have c2 : V.cell? ⟨b2, 2, none⟩ = _ := hI.c2 2 _ rfl
      exact ok_value (v := .agg #[.slice adG2 M capG2, .int .i64 secs, .slice adL2 Z capL2]) (wanted_at (j := 32) rfl rfl gd rfl) (by simp [execOp, go_sem, e11, c0, c1, c2]) (by intro c; simp) (fun _ _ => trivial) ⟨_, rfl, hI, Below.refl _ _, ⟨fun u h => Option.some.inj h, fun e => absurd e (by decide), fun e => absurd e (by decide)⟩⟩
    · intro a V hI hdep hfree
      have gd : slot a 79 = .bool true := (hdep 32 (by decide)).1 _ rfl
      have e82 := slot_raw (show slot a 82 = .agg #[.slice adG2 M capG2, .int .i64 secs, .slice adL2 Z capL2] from (hdep 35 (by decide)).1 _ rfl)
      refine ok_call (wanted_at (j := 32) rfl rfl gd rfl) (f := 15) (args := #[.agg #[.slice adG2 M capG2, .int .i64 secs, .slice adL2 Z capL2]]) (by simp [go_sem, e82, eg1]) (by intro c; simp) ((plain_at V adG2 M capG2 _ secs xs Z hI.l2 hZ).mono ?_)
      rintro e V2 ⟨vL', rfl, hown, hb⟩
      exact ⟨_, rfl, _, rfl, hI.grow hb, hb, ⟨fun u h => (by cases h), fun e => absurd e (by decide), fun _ => ⟨vL', rfl, Rd.of_own hown⟩⟩⟩
    · intro a V hI hdep hfree
      have gd : slot a 79 = .bool true := (hdep 32 (by decide)).1 _ rfl
      obtain ⟨u1, q81, r81⟩ := (hdep 34 (by decide)).2.1 rfl
      obtain ⟨u2, q83, r83⟩ := (hdep 36 (by decide)).2.2 rfl
      have e81 := slot_raw (show slot a 81 = _ from q81)
      have e83 := slot_raw (show slot a 83 = _ from q83)
      refine ok_call (wanted_at (j := 32) rfl rfl gd rfl) (f := 14) (args := #[.agg #[.slice adG1 M capG1, .int .i64 secs, u1], .agg #[.slice adG2 M capG2, .int .i64 secs, u2]]) (by simp [go_sem, eg2, e81, e83]) (by intro c; simp) ((same_at V _ _ _ _ secs gs xs M Z hI.g1 r81 hI.g2 r83 hM hZ).mono ?_)
      rintro e V2 ⟨rfl, hb⟩
      exact ⟨_, rfl, _, rfl, hI.grow hb, hb, ⟨fun u h => Option.some.inj h, fun e => absurd e (by decide), fun e => absurd e (by decide)⟩⟩
    · intro a V hI hdep hfree
      have e79 := slot_raw (show slot a 79 = .bool true from (hdep 32 (by decide)).1 _ rfl)
      have e84 := slot_raw (show slot a 84 = .bool true from (hdep 37 (by decide)).1 _ rfl)
      exact ok_value (v := .bool true) (wanted_none rfl) (by simp [execOp, go_sem, e79, e84]) (by intro c; simp) (fun _ _ => trivial) ⟨_, rfl, hI, Below.refl _ _, ⟨fun u h => Option.some.inj h, fun e => absurd e (by decide), fun e => absurd e (by decide)⟩⟩
    · intro a V hI hdep hfree
      have e85 := slot_raw (show slot a 85 = .bool true from (hdep 38 (by decide)).1 _ rfl)
      exact ok_value (v := .bool true) (wanted_none rfl) (by simp [execOp, go_sem, e85]) (by intro c; simp) (fun _ _ => trivial) ⟨_, rfl, hI, Below.refl _ _, ⟨fun u h => Option.some.inj h, fun e => absurd e (by decide), fun e => absurd e (by decide)⟩⟩
    · intro a2 V hsz hdf hrest hval hI2
      have e2 : a2.tmps.getD 2 undef = .bool true := (hval 39 (by decide)).1 _ rfl
      have hbel := hI2.bel
      gi_wp2_with fail
      go_wp2_with fail
      refine bodyPost_ret (results_tmp rfl _ _ _) hdf (Ret.mk e2 hbel)

theorem Notes_pure (t : ByteArray) : Pure Try.prog 5 #[.string t] (.bool true) := by
  by_cases h : 6000 < t.size
  · exact walk_out t h
  · exact walk t (by omega)

set_option maxRecDepth 100000 in
theorem lawWalk : LawWalk 5 Try.f5.params := by
  intro H enc W base args ds p hval hA _ _
  rw [Try.params5] at hA hval
  obtain ⟨v0, d0, rfl, rfl, h0⟩ := trodAll_one hA
  obtain ⟨s, rfl, rfl, rfl, hs⟩ := open_string Try.underlying9 (hval 0 9 v0 rfl rfl) h0
  exact Notes_pure s W

set_option maxRecDepth 100000 in
theorem holds : Rows.ScriptNotesSaid :=
  OpenClaim.holds_of_wide 5 Try.f5 rfl rfl rfl rfl rfl rfl rfl ⟨rfl, rfl, rfl, rfl, rfl⟩ rfl rfl rfl rfl rfl (by kernel_rfl) Try.func5 (by kernel_rfl)
    (of_decide_eq_true (by kernel_rfl)) (by unfold Func.isWrapper; first | (rw [if_pos (by decide +kernel)]; kernel_rfl) | (rw [if_neg (by decide +kernel)]; exact ⟨rfl, rfl⟩))
    (fun os started H enc _ => law_lifted (s := Rows.scriptNotesSpec) started (by kernel_rfl) Try.func5 rfl rfl Try.underlying4 (by kernel_rfl)
      (fun ds h => by
        rw [Try.params5] at h
        match ds, h with
        | [d1], _ => rfl)
      (ChangeSpec.witness6 (enc := enc) (C := Try.checked) false ⟨#[], #[.string ⟨#[]⟩], []⟩ 8 (by kernel_rfl) (by kernel_rfl) (by kernel_rfl) (by kernel_rfl))
      lawWalk)
#print axioms holds

end ScriptNotes
end Go.Proofs.Ytajionjffijffaa

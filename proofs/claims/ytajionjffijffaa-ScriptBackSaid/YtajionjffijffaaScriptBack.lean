/-
  What is written of a script is read as it was, with notes ahead of it, between its lines, and behind. For every script and text.
-/
import Derived.Deep.DeepCutAuto
import Derived.Test.YtajionjffijffaaBackP
import Derived.Test.YtajionjffijffaaScriptNotes
import Derived.Test.YtajionjffijffaaOf
import Derived.Test.YtajionjffijffaaOpenS
namespace Go.Proofs.Ytajionjffijffaa
open Go.RowKit Go.Sort Go.ChangeShapes Go.WideShapes Go.ChangeAt Go.Joins Go.ChangeMaps

/-- two scripts that were read, and the one that came in, all of the same contents -/
structure BackI (w W : World) (b1 b2 : Nat) (adG : Option Addr) (cG : Nat) (adL : Option Addr) (cL : Nat) (adG1 : Option Addr) (capG1 : Nat) (adL1 : Option Addr) (capL1 : Nat) (adG2 : Option Addr) (capG2 : Nat) (adL2 : Option Addr) (capL2 : Nat) (gs : List (Int × Int)) (secs : Int) (xs : List Act5) (M Z : Nat) : Prop where
  two : TwoS w W b1 b2 adG1 capG1 adL1 capL1 adG2 capG2 adL2 capL2 gs secs xs M Z
  h0 : W.heap[w.heap.size]? = some (.cells #[.slice adG M cG, .int .i64 secs, .slice adL Z cL] 47 (0, 0))
  g0 : Rd W 2 M (.slice adG M cG) (flatG gs)
  l0 : Rd W 5 Z (.slice adL Z cL) (flatA xs)
theorem BackI.grow {w W W' : World} {b1 b2 : Nat} {adG : Option Addr} {cG : Nat} {adL : Option Addr} {cL : Nat} {adG1 : Option Addr} {capG1 : Nat} {adL1 : Option Addr} {capL1 : Nat} {adG2 : Option Addr} {capG2 : Nat} {adL2 : Option Addr} {capL2 : Nat} {gs : List (Int × Int)} {secs : Int} {xs : List Act5} {M Z : Nat}
    (h : BackI w W b1 b2 adG cG adL cL adG1 capG1 adL1 capL1 adG2 capG2 adL2 capL2 gs secs xs M Z) (hb : Below W.heap.size W W') : BackI w W' b1 b2 adG cG adL cL adG1 capG1 adL1 capL1 adG2 capG2 adL2 capL2 gs secs xs M Z :=
  ⟨h.two.grow hb, (hb.block _ (Array.getElem?_eq_some_iff.1 h.h0).1).trans h.h0, h.g0.grow hb, h.l0.grow hb⟩
theorem BackI.c0 {w W : World} {b1 b2 : Nat} {adG : Option Addr} {cG : Nat} {adL : Option Addr} {cL : Nat} {adG1 : Option Addr} {capG1 : Nat} {adL1 : Option Addr} {capL1 : Nat} {adG2 : Option Addr} {capG2 : Nat} {adL2 : Option Addr} {capL2 : Nat} {gs : List (Int × Int)} {secs : Int} {xs : List Act5} {M Z : Nat}
    (h : BackI w W b1 b2 adG cG adL cL adG1 capG1 adL1 capL1 adG2 capG2 adL2 capL2 gs secs xs M Z) (i : Nat) (u : Value) (hu : (#[.slice adG M cG, .int .i64 secs, .slice adL Z cL] : Array Value)[i]? = some u) : W.cell? ⟨w.heap.size, i, none⟩ = some u := by rw [cell_of_row W _ i _ _ _ h.h0]; exact hu

/-! ### the note's text, cut at its first line's end -/
def cutL (l : List UInt8) : List UInt8 := l.takeWhile fun b => b ≠ 10
theorem cutL_no10 (l : List UInt8) : (10 : UInt8) ∉ cutL l := fun h => by
  induction l with
  | nil => simp [cutL] at h
  | cons b l ih =>
    unfold cutL at h ih
    rw [List.takeWhile_cons] at h
    split at h
    · rename_i hb
      rcases List.mem_cons.1 h with e | h
      · rw [← e] at hb; simp at hb
      · exact ih h
    · cases h
theorem cutL_all : ∀ l : List UInt8, (10 : UInt8) ∉ l → cutL l = l
  | [], _ => rfl
  | b :: l, h => by
    unfold cutL
    rw [List.takeWhile_cons, if_pos (by simp; exact fun e => h (by simp [e]))]
    congr 1
    exact cutL_all l fun e => h (List.mem_cons_of_mem _ e)
theorem cutL_at : ∀ (l : List UInt8) (i : Nat) (hi : i < l.length), (10 : UInt8) ∉ l.take i → l[i] = 10 → cutL l = l.take i
  | [], i, hi, _, _ => by simp at hi
  | b :: l, 0, _, _, h => by
    simp only [List.getElem_cons_zero] at h
    subst h
    rfl
  | b :: l, i + 1, hi, hn, h => by
    rw [List.take_succ_cons] at hn ⊢
    unfold cutL
    rw [List.takeWhile_cons, if_pos (by simp; exact fun e => hn (by simp [e]))]
    congr 1
    exact cutL_at l i (by simpa using hi) (fun e => hn (List.mem_cons_of_mem _ e)) (by simpa using h)

namespace ScriptBack

set_option maxRecDepth 100000 in
set_option maxHeartbeats 4000000 in
theorem walk_out (w : World) (vG vL : Value) (secs : Int) (more : ByteArray) (m n : Nat) (gs : List (Int × Int)) (xs : List Act5) (hm : m ≤ 9223372036854775807) (hn : n ≤ 9223372036854775807) (hG : Rd w 2 m vG (flatG gs)) (hL : Rd w 5 n vL (flatA xs)) (h : fewS gs xs = false ∨ 100 < more.size) :
    Calls Try.prog 6 #[.agg #[vG, .int .i64 secs, vL], .string more] w (Ret (.bool true) w) := by
  have cF := fun g : Gr => few_at (gr (w.alloc (.cells #[vG, .int .i64 secs, vL] 47)) g) vG vL secs gs xs m n (hG.grow (bel1 w _ _)) (hL.grow (bel1 w _ _)) hm hn
  obtain ⟨β, hβ⟩ : ∃ β, fewS gs xs = β := ⟨_, rfl⟩
  rw [hβ] at cF h
  cases β with
  | false =>
    clear h
    go_enter Try.func6, Try.ntmps6
    go_wp2_with (first
      | (go_at_call 8; with_reducible refine (awake_any.at _).mono ?_; rintro e w' ⟨rfl, g, rfl⟩)
      | (go_at_call 16; refine (Calls.at (cF _)).mono ?_; rintro e w' ⟨rfl, g2, rfl⟩))
    all_goals go_ret
    all_goals exact Ret.mk rfl (by (repeat' (first | (with_reducible exact Below.refl _ _) | (with_reducible refine belowGrU ?_ _) | (with_reducible refine belowAlloc ?_ _) | (with_reducible refine Below.setCell ?_ ?_ _) | (with_reducible refine Below.drew ?_) | (simp [go_sem]; done) | (simp [go_sem]; omega))))
  | true =>
    have h2 : 100 < more.size := by rcases h with h | h; cases h; exact h
    have h1 : (100 : Int) < (more.size : Int) := by omega
    clear h
    go_enter Try.func6, Try.ntmps6
    go_wp2_with (first
      | (go_at_call 8; with_reducible refine (awake_any.at _).mono ?_; rintro e w' ⟨rfl, g, rfl⟩)
      | (go_at_call 16; refine (Calls.at (cF _)).mono ?_; rintro e w' ⟨rfl, g2, rfl⟩))
    all_goals (try (exfalso; omega))
    all_goals go_ret
    all_goals exact Ret.mk rfl (by (repeat' (first | (with_reducible exact Below.refl _ _) | (with_reducible refine belowGrU ?_ _) | (with_reducible refine belowAlloc ?_ _) | (with_reducible refine Below.setCell ?_ ?_ _) | (with_reducible refine Below.drew ?_) | (simp [go_sem]; done) | (simp [go_sem]; omega))))

set_option maxRecDepth 100000 in
set_option maxHeartbeats 4000000 in
theorem walk_no (w : World) (adG : Option Addr) (cG : Nat) (vL : Value) (secs : Int) (more : ByteArray) (m n : Nat) (gs : List (Int × Int)) (xs : List Act5) (hm : m ≤ 100) (hn : n ≤ 100) (hG : Rd w 2 m (.slice adG m cG) (flatG gs)) (hL : Rd w 5 n vL (flatA xs)) (h : fewS gs xs = true) (hmo : more.size ≤ 100) (hr : rightS gs secs xs ≠ 0) :
    Calls Try.prog 6 #[.agg #[.slice adG m cG, .int .i64 secs, vL], .string more] w (Ret (.bool true) w) := by
  have cF := fun g : Gr => few_at (gr (w.alloc (.cells #[.slice adG m cG, .int .i64 secs, vL] 47)) g) _ vL secs gs xs m n (hG.grow (bel1 w _ _)) (hL.grow (bel1 w _ _)) (by omega) (by omega)
  rw [h] at cF
  have cO := fun g : Gr => of_at (gr (w.alloc (.cells #[.slice adG m cG, .int .i64 secs, vL] 47)) g) adG m cG vL secs xs n (hL.grow (bel1 w _ _)) (by omega)
  have h1 : (more.size : Int) ≤ 100 := by omega
  have hb0 : (rightS gs secs xs == 0) = false := by rw [beq_eq_false_iff_ne]; exact hr
  have hb1 : (rightS gs secs xs != 0) = true := by simp [hr]
  have cW := fun (g : Gr) (v : Value) (hv : Rd (gr (w.alloc (.cells #[.slice adG m cG, .int .i64 secs, vL] 47)) g) 5 n v (flatA xs)) => Calls.at (Write_no (gr (w.alloc (.cells #[.slice adG m cG, .int .i64 secs, vL] 47)) g) _ v secs gs xs m n (hG.grow (bel1 w _ _)) hv (by omega) (by omega) hr)
  have cR := fun (g : Gr) (v : Value) (hv : Rd (gr (w.alloc (.cells #[.slice adG m cG, .int .i64 secs, vL] 47)) g) 5 n v (flatA xs)) => Calls.at (Right_rd (W := gr (w.alloc (.cells #[.slice adG m cG, .int .i64 secs, vL] 47)) g) (secs := secs) (hG.grow (bel1 w _ _)) (by omega) hv (by omega))
  obtain ⟨R, hR⟩ : ∃ R, rightS gs secs xs = R := ⟨_, rfl⟩
  rw [hR] at hb0 hb1 cW cR
  clear hr hR h
  obtain ⟨adL, bL, oL, cL, rfl, hL2⟩ := hL
  clear hL2
  go_enter Try.func6, Try.ntmps6
  go_wp2_with (first
    | (go_at_call 8; with_reducible refine (awake_any.at _).mono ?_; rintro e w' ⟨rfl, g, rfl⟩)
    | (go_at_call 16; refine (Calls.at (cF _)).mono ?_; rintro e w' ⟨rfl, g2, rfl⟩)
    | (go_at_call 18; refine (cO _).mono ?_; rintro e w' ⟨v1, rfl, ho1, hb1'⟩; obtain ⟨g3, rfl⟩ := gr_of_below hb1'; have hv1 := Rd.of_own ho1; rw [gr_gr] at hv1; clear ho1 hb1')
    | (go_at_call 17; refine (cW _ _ hv1).mono ?_; rintro e w' ⟨rfl, g4, rfl⟩)
    | (go_at_call 19; refine (cR _ _ hv1).mono ?_; rintro e w' ⟨rfl, g5, rfl⟩))
  all_goals (try (exfalso; omega))
  all_goals go_ret
  all_goals exact Ret.mk (by simp) (by (repeat' (first | (with_reducible exact Below.refl _ _) | (with_reducible refine belowGrU ?_ _) | (with_reducible refine belowAlloc ?_ _) | (with_reducible refine Below.setCell ?_ ?_ _) | (with_reducible refine Below.drew ?_) | (simp [go_sem]; done) | (simp [go_sem]; omega))))

set_option maxRecDepth 100000 in
set_option maxHeartbeats 4000000 in
theorem walk_yes (w : World) (adG : Option Addr) (cG : Nat) (adL : Option Addr) (cL : Nat) (secs : Int) (more : ByteArray) (m n : Nat) (gs : List (Int × Int)) (xs : List Act5) (hm1 : m ≤ 100) (hn1 : n ≤ 100) (hG : Rd w 2 m (.slice adG m cG) (flatG gs)) (hL : Rd w 5 n (.slice adL n cL) (flatA xs)) (h : fewS gs xs = true) (hmo : more.size ≤ 100) (hr : rightS gs secs xs = 0) :
    Calls Try.prog 6 #[.agg #[.slice adG m cG, .int .i64 secs, .slice adL n cL], .string more] w (Ret (.bool true) w) := by
  have cF := fun g : Gr => few_at (gr (w.alloc (.cells #[.slice adG m cG, .int .i64 secs, .slice adL n cL] 47)) g) _ _ secs gs xs m n (hG.grow (bel1 w _ _)) (hL.grow (bel1 w _ _)) (by omega) (by omega)
  rw [h] at cF
  have cO := fun g : Gr => of_at (gr (w.alloc (.cells #[.slice adG m cG, .int .i64 secs, .slice adL n cL] 47)) g) adG m cG _ secs xs n (hL.grow (bel1 w _ _)) (by omega)
  have h1 : (more.size : Int) ≤ 100 := by omega
  have cW := fun (g : Gr) (v : Value) (hv : Rd (gr (w.alloc (.cells #[.slice adG m cG, .int .i64 secs, .slice adL n cL] 47)) g) 5 n v (flatA xs)) => Calls.at (Write_at (gr (w.alloc (.cells #[.slice adG m cG, .int .i64 secs, .slice adL n cL] 47)) g) _ v secs gs xs m n (hG.grow (bel1 w _ _)) hv hr)
  have hmg : m = gs.length := by obtain ⟨_, _, _, _, _, h⟩ := hG; exact flatG_n h.len
  have hnx : n = xs.length := by obtain ⟨_, _, _, _, _, h⟩ := hL; exact flatA_n h.len
  have hrp := rightP_of hr
  have hwl : (writeB gs secs xs).length ≤ 11000 := by
    have h2 := linesB_len xs fun x hx => okW_of (hrp.acts x hx)
    have h3 := preG_len secs (by have := hrp.s1; omega) hrp.s2 gs (fun g hg => (hrp.one g hg).2)
    have h4 := hrp.g4
    have h5 : (headB secs gs).length = (preG secs gs).length + 1 := by simp [headB, preG]; omega
    unfold writeB
    rw [List.length_append, h5]
    omega
  obtain ⟨t, ht⟩ : ∃ t, ofL (writeB gs secs xs) = t := ⟨_, rfl⟩
  have htl : t.data.toList = writeB gs secs xs := by rw [← ht, ofL_list]
  have htz : t.size ≤ 11000 := by rw [← ht, ofL_size]; exact hwl
  rw [ht] at cW
  have HT := Lib.hid ht
  have HTL := Lib.hid htl
  have HR := Lib.hid hr
  have HMG := Lib.hid hmg
  have HNX := Lib.hid hnx
  clear ht htl hrp hwl hmg hnx h hr
  go_enter Try.func6, Try.ntmps6
  go_wp2_with (first
    | (go_at_call 8; with_reducible refine (awake_any.at _).mono ?_; rintro e w' ⟨rfl, g, rfl⟩)
    | (go_at_call 16; refine (Calls.at (cF _)).mono ?_; rintro e w' ⟨rfl, g2, rfl⟩)
    | (go_at_call 18; refine (cO _).mono ?_; rintro e w' ⟨v1, rfl, ho1, hb1'⟩; obtain ⟨g3, rfl⟩ := gr_of_below hb1'; have hv1 := Rd.of_own ho1; rw [gr_gr] at hv1; clear ho1 hb1')
    | (go_at_call 17; refine (cW _ _ hv1).mono ?_; rintro e w' ⟨rfl, g4, rfl⟩))
  all_goals (try (exfalso; omega))
  clear cF cO cW
  go_loopw [7, 1] (fun i s wr => ∃ (j : Nat) (M : ByteArray), i = .int .i64 (j : Int) ∧ s = .string M ∧ M.size ≤ 100 ∧ ((M = more ∧ j ≤ M.size ∧ Hid ((10 : UInt8) ∉ M.data.toList.take j)) ∨ (j = M.size + 1 ∧ Hid (M.data.toList = cutL more.data.toList))) ∧
    ∃ g : Gr, wr = gr (w.alloc (.cells #[.slice adG m cG, .int .i64 secs, .slice adL n cL] 47)) g) (fun i _ _ => 102 - (intOf i).toNat)
  case atStart => exact ⟨0, more, rfl, rfl, hmo, .inl ⟨rfl, by omega, Lib.hid (by simp)⟩, _, rfl⟩
  case round =>
    obtain ⟨j, M, rfl, rfl, hMz, hcase, g, rfl⟩ := hrel
    by_cases hlt : j < M.size
    · obtain ⟨rfl, hjl, HN10⟩ : M = more ∧ j ≤ M.size ∧ Hid ((10 : UInt8) ∉ M.data.toList.take j) := by rcases hcase with h | h; exact h; (have := h.1; omega)
      have hjl2 : j < M.data.toList.length := by rw [size_list]; exact hlt
      have hbe : M.data.toList[j] = M[j] := by simp; rfl
      by_cases hb : M[j] = 10
      · have hb1 : ((M[j].toNat : Int) == 10) = true := by rw [hb]; rfl
        have hcut := cutL_at M.data.toList j hjl2 HN10.out (hbe.trans hb)
        have hex : (M.extract 0 j).data.toList = cutL M.data.toList := by rw [hcut, Lib.extract_data]; simp
        have hexz : (M.extract 0 j).size = j := by rw [← size_list, hex, hcut, List.length_take, size_list]; omega
        have HEX := Lib.hid hex
        clear hcase HN10 hcut hex hbe
        go_wp2_with fail
        all_goals (try (exfalso; omega))
        go_roundw
        case rel => exact ⟨j + 1, M.extract 0 j, by go_num, rfl, by omega, .inr ⟨by omega, HEX⟩, _, rfl⟩
        case measure => simp [intOf]; omega
      · have hb1 : ((M[j].toNat : Int) == 10) = false := by
          rw [beq_eq_false_iff_ne]
          intro e
          exact hb (UInt8.toNat_inj.1 (by have : (10 : UInt8).toNat = 10 := rfl; omega))
        have HN2 : Hid ((10 : UInt8) ∉ M.data.toList.take (j + 1)) := Lib.hid (by
          rw [List.take_succ_eq_append_getElem hjl2]
          intro hm
          rcases List.mem_append.1 hm with hm | hm
          · exact HN10.out hm
          · rw [List.mem_singleton] at hm; exact hb (by rw [← hbe, ← hm]))
        clear hcase HN10 hbe
        go_wp2_with fail
        all_goals (try (exfalso; omega))
        go_roundw
        case rel => exact ⟨j + 1, M, by go_num, rfl, by omega, .inl ⟨rfl, by omega, HN2⟩, _, rfl⟩
        case measure => simp [intOf]; omega
    · have HM : Hid (M.data.toList = cutL more.data.toList) := by
        rcases hcase with ⟨rfl, h1, h2⟩ | ⟨_, h2⟩
        · refine Lib.hid (cutL_all _ ?_).symm
          have := h2.out
          rwa [List.take_of_length_le (by rw [size_list]; omega)] at this
        · exact h2
      have HX : Hid ((((⟨#[194, 167]⟩ : ByteArray) ++ M) ++ ⟨#[10, 10]⟩).data.toList ++ insN M.data.toList 0 (t.data.toList.drop 0) = notedB M.data.toList t.data.toList) := Lib.hid (by
        rw [cat_list, cat_list, List.drop_zero]
        simp [notedB, sect])
      have hXz : (((⟨#[194, 167]⟩ : ByteArray) ++ M) ++ ⟨#[10, 10]⟩).size ≤ 104 := by rw [cat_size, cat_size, show (⟨#[194, 167]⟩ : ByteArray).size = 2 from rfl, show (⟨#[10, 10]⟩ : ByteArray).size = 2 from rfl]; omega
      clear hcase
      go_wp2_with fail
      all_goals (try (exfalso; omega))
      obtain ⟨X0, hX0⟩ : ∃ X0, ((⟨#[194, 167]⟩ : ByteArray) ++ M) ++ ⟨#[10, 10]⟩ = X0 := ⟨_, rfl⟩
      rw [hX0] at HX hXz ⊢
      clear hX0
      go_loopw [9, 8] (fun i s wr => ∃ (k : Nat) (X : ByteArray), k ≤ t.size ∧ i = .int .i64 (k : Int) ∧ s = .string X ∧ X.size ≤ 104 + k * 120 ∧ Hid (X.data.toList ++ insN M.data.toList k (t.data.toList.drop k) = notedB M.data.toList t.data.toList) ∧
        ∃ g : Gr, wr = gr (w.alloc (.cells #[.slice adG m cG, .int .i64 secs, .slice adL n cL] 47)) g) (fun i _ _ => t.size - (intOf i).toNat)
      case atStart => exact ⟨0, X0, by omega, rfl, rfl, by omega, HX, _, rfl⟩
      case round =>
        obtain ⟨k, X, hk, rfl, rfl, hXk, HXk, g8, rfl⟩ := hrel
        by_cases hltk : k < t.size
        · have hkl : k < t.data.toList.length := by rw [size_list]; exact hltk
          have hbe : t.data.toList[k] = t[k] := by simp; rfl
          have hdrop : t.data.toList.drop k = t[k] :: t.data.toList.drop (k + 1) := by rw [List.drop_eq_getElem_cons hkl, hbe]
          have hex : (t.extract k (k + 1)).data.toList = [t[k]] := by
            rw [Lib.extract_data, hdrop]
            simp
          have hexz : (t.extract k (k + 1)).size = 1 := by rw [← size_list, hex]; rfl
          have hxk := HXk.out
          rw [hdrop, insN] at hxk
          have hkm : k * 120 ≤ 11000 * 120 := Nat.mul_le_mul_right _ (by omega)
          by_cases hb : t[k] = 10
          · have hb1 : ((t[k].toNat : Int) == 10) = true := by rw [hb]; rfl
            by_cases hev : k % 2 = 0
            · rw [if_pos ⟨hb, hev⟩] at hxk
              have HX2 : Hid ((X ++ t.extract k (k + 1) ++ ⟨#[194, 167, 32]⟩ ++ M ++ ⟨#[10]⟩).data.toList ++ insN M.data.toList (k + 1) (t.data.toList.drop (k + 1)) = notedB M.data.toList t.data.toList) := Lib.hid (by
                rw [← hxk]
                simp only [cat_list, hex, sect]
                simp)
              have hz3 : (X ++ t.extract k (k + 1) ++ ⟨#[194, 167, 32]⟩ ++ M ++ ⟨#[10]⟩).size ≤ 104 + (k + 1) * 120 := by
                simp only [cat_size, hexz, show (⟨#[194, 167, 32]⟩ : ByteArray).size = 3 from rfl, show (⟨#[10]⟩ : ByteArray).size = 1 from rfl]
                omega
              have hz1 : (X ++ t.extract k (k + 1)).size ≤ 104 + k * 120 + 1 := by rw [cat_size, hexz]; omega
              have hz2 : (X ++ t.extract k (k + 1) ++ ⟨#[194, 167, 32]⟩).size ≤ 104 + k * 120 + 4 := by rw [cat_size, cat_size, hexz, show (⟨#[194, 167, 32]⟩ : ByteArray).size = 3 from rfl]; omega
              have hz4 : (X ++ t.extract k (k + 1) ++ ⟨#[194, 167, 32]⟩ ++ M).size ≤ 104 + k * 120 + 104 := by rw [cat_size, cat_size, cat_size, hexz, show (⟨#[194, 167, 32]⟩ : ByteArray).size = 3 from rfl]; omega
              have hev2 : ((k : Int) % 2 == 0) = true := by rw [beq_iff_eq]; omega
              have hev3 : ((k : Int).tmod 2 == 0) = true := by rw [Int.tmod_eq_emod_of_nonneg (by omega)]; exact hev2
              clear hxk hdrop hex hbe HXk
              go_wp2_with fail
              all_goals (try (exfalso; omega))
              go_roundw
              case rel => exact ⟨k + 1, _, by omega, by go_num, rfl, hz3, HX2, _, rfl⟩
              case measure => simp [intOf]; omega
            · rw [if_neg (fun h => hev h.2)] at hxk
              have HX2 : Hid ((X ++ t.extract k (k + 1)).data.toList ++ insN M.data.toList (k + 1) (t.data.toList.drop (k + 1)) = notedB M.data.toList t.data.toList) := Lib.hid (by
                rw [← hxk]
                simp only [cat_list, hex]
                simp)
              have hz1 : (X ++ t.extract k (k + 1)).size ≤ 104 + (k + 1) * 120 := by rw [cat_size, hexz]; omega
              have hev2 : ((k : Int) % 2 == 0) = false := by rw [beq_eq_false_iff_ne]; omega
              have hev3 : ((k : Int).tmod 2 == 0) = false := by rw [Int.tmod_eq_emod_of_nonneg (by omega)]; exact hev2
              clear hxk hdrop hex hbe HXk
              go_wp2_with fail
              all_goals (try (exfalso; omega))
              go_roundw
              case rel => exact ⟨k + 1, _, by omega, by go_num, rfl, hz1, HX2, _, rfl⟩
              case measure => simp [intOf]; omega
          · have hb1 : ((t[k].toNat : Int) == 10) = false := by
              rw [beq_eq_false_iff_ne]
              intro e
              exact hb (UInt8.toNat_inj.1 (by have : (10 : UInt8).toNat = 10 := rfl; omega))
            rw [if_neg (fun h => hb h.1)] at hxk
            have HX2 : Hid ((X ++ t.extract k (k + 1)).data.toList ++ insN M.data.toList (k + 1) (t.data.toList.drop (k + 1)) = notedB M.data.toList t.data.toList) := Lib.hid (by
              rw [← hxk]
              simp only [cat_list, hex]
              simp)
            have hz1 : (X ++ t.extract k (k + 1)).size ≤ 104 + (k + 1) * 120 := by rw [cat_size, hexz]; omega
            clear hxk hdrop hex hbe HXk
            go_wp2_with fail
            all_goals (try (exfalso; omega))
            go_roundw
            case rel => exact ⟨k + 1, _, by omega, by go_num, rfl, hz1, HX2, _, rfl⟩
            case measure => simp [intOf]; omega
        · obtain rfl : k = t.size := by omega
          have hXl : X.data.toList = notedB M.data.toList t.data.toList := by
            have := HXk.out
            rwa [List.drop_of_length_le (by rw [size_list]; omega), insN, List.append_nil] at this
          by_cases h8 : 8192 < X.size
          · have h81 : (8192 : Int) < (X.size : Int) := by omega
            clear HX HXk hXl HT HTL HR HMG HNX HM
            go_wp2_with fail
            all_goals (try (exfalso; omega))
            all_goals go_ret
            all_goals exact Ret.mk rfl (by (repeat' (first | (with_reducible exact Below.refl _ _) | (with_reducible refine belowGrU ?_ _) | (with_reducible refine belowAlloc ?_ _) | (with_reducible refine Below.setCell ?_ ?_ _) | (with_reducible refine Below.drew ?_) | (simp [go_sem]; done) | (simp [go_sem]; omega))))
          · have hm10 : (10 : UInt8) ∉ M.data.toList := by rw [HM.out]; exact cutL_no10 _
            have hXo : ofL (notedB M.data.toList (writeB gs secs xs)) = X := by rw [← HTL.out, ← hXl]; exact ofL_self X
            have hXn : (notedB M.data.toList (writeB gs secs xs)).length ≤ 8192 := by rw [← ofL_size, hXo]; omega
            have hwz : (writeB gs secs xs).length ≤ 8192 := by
              have h3 := insN_len M.data.toList (writeB gs secs xs) 0
              unfold notedB at hXn
              rw [List.length_append] at hXn
              omega
            obtain ⟨hp1, hp2, hp3⟩ := back_plain HR.out hm10 hXn
            have hp0 := parse_written HR.out hwz
            rw [hXo] at hp1
            rw [HT.out] at hp0
            have cP1 := fun W : World => Parse_at t (by omega) W
            have cP2 := fun W : World => Parse_at X (by omega) W
            rw [hp0] at cP1
            rw [hp1] at cP2
            have cN := Notes_any X (by omega)
            rw [hXl, HTL.out, hp2, HT.out] at cN
            obtain ⟨C, hC⟩ : ∃ C, notesC (linesS (notedB M.data.toList (writeB gs secs xs))) = C := ⟨_, rfl⟩
            rw [hC] at cN hp3
            simp only at cP1 cP2
            rw [← HMG.out, ← HNX.out] at cP1 cP2
            clear hp0 hp1 hp2 hC hXn hwz hXo hm10 hXl HX HXk HM HT HTL
            go_upto_region 23 with (first
              | (go_at_call 13; with_reducible refine (cN.at _).mono ?_; rintro e w' ⟨rfl, g3, rfl⟩)
              | (go_at_call 9; with_reducible refine (cP1 _).mono ?_; rintro e W1 ⟨vG1, vL1, rfl, hG1, hL1, hbel1⟩; obtain ⟨adG1, capG1, rfl⟩ := ownsRow_len hG1; obtain ⟨adL1, capL1, rfl⟩ := ownsRow_len hL1)
              | (go_at_call 9; with_reducible refine (cP2 _).mono ?_; rintro e W2 ⟨vG2, vL2, rfl, hG2, hL2, hbel2⟩; obtain ⟨adG2, capG2, rfl⟩ := ownsRow_len hG2; obtain ⟨adL2, capL2, rfl⟩ := ownsRow_len hL2))
            all_goals (try (exfalso; omega))
            have B0 : Below w.heap.size w (gr (w.alloc (.cells #[.slice adG m cG, .int .i64 secs, .slice adL n cL] 47)) g8) := bel1 w _ g8
            have C1 := bel1' W1 (.cells #[.slice adG1 m capG1, .int .i64 secs, .slice adL1 n capL1] 28)
            have C2 := bel1' W2 (.cells #[.slice adG2 m capG2, .int .i64 secs, .slice adL2 n capL2] 28)
            have C3 := below_gr (W2.alloc (.cells #[.slice adG2 m capG2, .int .i64 secs, .slice adL2 n capL2] 28)) g3
            have D2 : Below W2.heap.size W2 (gr (W2.alloc (.cells #[.slice adG2 m capG2, .int .i64 secs, .slice adL2 n capL2] 28)) g3) := C2.trans (C3.mono (by simp))
            have hs2 : W1.heap.size < W2.heap.size := by have := hbel2.size; simp at this; omega
            have D1' : Below (W1.alloc (.cells #[.slice adG1 m capG1, .int .i64 secs, .slice adL1 n capL1] 28)).heap.size (W1.alloc (.cells #[.slice adG1 m capG1, .int .i64 secs, .slice adL1 n capL1] 28)) (gr (W2.alloc (.cells #[.slice adG2 m capG2, .int .i64 secs, .slice adL2 n capL2] 28)) g3) := hbel2.trans (D2.mono (by simp; omega))
            have D1 : Below W1.heap.size W1 (gr (W2.alloc (.cells #[.slice adG2 m capG2, .int .i64 secs, .slice adL2 n capL2] 28)) g3) := C1.trans (D1'.mono (by simp))
            have D0 : Below (gr (w.alloc (.cells #[.slice adG m cG, .int .i64 secs, .slice adL n cL] 47)) g8).heap.size (gr (w.alloc (.cells #[.slice adG m cG, .int .i64 secs, .slice adL n cL] 47)) g8) (gr (W2.alloc (.cells #[.slice adG2 m capG2, .int .i64 secs, .slice adL2 n capL2] 28)) g3) := hbel1.trans (D1.mono hbel1.size)
            have Df : Below w.heap.size w (gr (W2.alloc (.cells #[.slice adG2 m capG2, .int .i64 secs, .slice adL2 n capL2] 28)) g3) := B0.trans (D0.mono B0.size)
            have hbx : (gr (w.alloc (.cells #[.slice adG m cG, .int .i64 secs, .slice adL n cL] 47)) g8).heap[w.heap.size]? = some (.cells #[.slice adG m cG, .int .i64 secs, .slice adL n cL] 47 (0, 0)) := (gr_heap _ g8 (by simp)).trans (World.alloc_heap_new w _)
            have HI := Lib.hid (BackI.mk (TwoS.mk Df ((D1'.block _ (by simp)).trans (World.alloc_heap_new W1 _)) ((gr_heap _ g3 (by simp)).trans (World.alloc_heap_new W2 _)) ((Rd.of_own hG1).grow D1) ((Rd.of_own hG2).grow D2) ((Rd.of_own hL1).grow D1) ((Rd.of_own hL2).grow D2)) ((D0.block _ (by rw [gr_size]; simp; omega)).trans hbx) (hG.grow Df) (hL.grow Df))
            clear B0 C1 C2 C3 D2 hs2 D1' D1 D0 Df hbx hbel1 hbel2 hG1 hL1 hG2 hL2 cN cP1 cP2
            generalize gr (W2.alloc (.cells #[.slice adG2 m capG2, .int .i64 secs, .slice adL2 n capL2] 28)) g3 = W at HI ⊢
            generalize W1.heap.size = b1 at HI ⊢
            generalize W2.heap.size = b2 at HI ⊢
            have hC2 : (2 : Int) ≤ (C : Int) := by omega
            have hwr : IntKind.i64.wrap 0 = 0 := by decide
            have hm : m < 1000000 := by omega
            have hn : n < 1000000 := by omega
            have eg1 : ∀ (args : Array Value) (w : World), (callFunc 15 args).run Try.prog w = .ok (.enter 15 args) w := enters_of Try.func15 (by kernel_rfl) rfl
            have eg2 : ∀ (args : Array Value) (w : World), (callFunc 14 args).run Try.prog w = .ok (.enter 14 args) w := enters_of Try.func14 (by kernel_rfl) rfl
            refine (wpIn_wide (n := 3)).1 ?_
            refine wpIn_region_grow (fun V => BackI w V b1 b2 adG cG adL cL adG1 capG1 adL1 capL1 adG2 capG2 adL2 capL2 gs secs xs m n) (fun j v V => (∀ u, ([some (.int .i64 0), some (.bool true), some (.bool true), some (.int .i64 0), some (.bool true), some (.bool true), some (.bool true), some (.int .i64 0), some (.int .i64 0), some (.int .i64 0), some (.int .i64 0), some (.int .i64 0), some (.int .i64 0), some (.int .i64 0), some (.bool true), some (.bool true), some (.bool true), some (.agg #[.slice adG1 m capG1, .int .i64 secs, .slice adL1 n capL1]), none, some (.agg #[.slice adG m cG, .int .i64 secs, .slice adL n cL]), some (.bool true), some (.bool true), some (.bool true), some (.agg #[.slice adG2 m capG2, .int .i64 secs, .slice adL2 n capL2]), none, some (.agg #[.slice adG m cG, .int .i64 secs, .slice adL n cL]), some (.bool true), some (.bool true), some (.bool true), some (.string t), some (.string t), some (.bool true), some (.bool true), some (.bool true), some (.int .i64 (C : Int)), some (.bool true), some (.bool true), some (.bool true)] : List (Option Value)).getD j none = some u → v = u) ∧ (j = 18 → ∃ u, v = .agg #[.slice adG1 m capG1, .int .i64 secs, u] ∧ Rd V 5 n u (flatA xs)) ∧ (j = 24 → ∃ u, v = .agg #[.slice adG2 m capG2, .int .i64 secs, u] ∧ Rd V 5 n u (flatA xs))) (by kernel_rfl) (by kernel_rfl) (by kernel_rfl) ?_ ?_ ⟨?_, ?_, ?_, ?_, ?_, ?_, ?_, ?_, ?_, ?_, ?_, ?_, ?_, ?_, ?_, ?_, ?_, ?_, ?_, ?_, ?_, ?_, ?_, ?_, ?_, ?_, ?_, ?_, ?_, ?_, ?_, ?_, ?_, ?_, ?_, ?_, ?_, ?_, trivial⟩ ?_
            · exact fun j v V V' hI hb h => ⟨h.1, fun e => (fun ⟨u, hu, hr⟩ => ⟨u, hu, hr.grow hb⟩) (h.2.1 e), fun e => (fun ⟨u, hu, hr⟩ => ⟨u, hu, hr.grow hb⟩) (h.2.2 e)⟩
            · exact HI.out.grow (Below.drew (Below.refl _ _))
            · intro a V hI hdep hfree
              have e13 := slot_raw (show slot a 13 = .int .i64 0 from (hfree 13 (by kernel_rfl)).trans rfl)
              exact ok_value (v := .int .i64 0) (wanted_none rfl) (by simp [execOp, go_sem, e13]) (by intro c; simp) (fun _ _ => trivial) ⟨_, rfl, hI, Below.refl _ _, ⟨fun u h => Option.some.inj h, fun e => absurd e (by decide), fun e => absurd e (by decide)⟩⟩
            · intro a V hI hdep hfree
              have e115 := slot_raw (show slot a 115 = .int .i64 0 from (hdep 0 (by decide)).1 _ rfl)
              exact ok_value (v := .bool true) (wanted_none rfl) (by simp [execOp, go_sem, e115]) (by intro c; simp) (fun _ _ => trivial) ⟨_, rfl, hI, Below.refl _ _, ⟨fun u h => Option.some.inj h, fun e => absurd e (by decide), fun e => absurd e (by decide)⟩⟩
            · intro a V hI hdep hfree
              have e116 := slot_raw (show slot a 116 = .bool true from (hdep 1 (by decide)).1 _ rfl)
              exact ok_value (v := .bool true) (wanted_none rfl) (by simp [execOp, go_sem, e116]) (by intro c; simp) (fun _ _ => trivial) ⟨_, rfl, hI, Below.refl _ _, ⟨fun u h => Option.some.inj h, fun e => absurd e (by decide), fun e => absurd e (by decide)⟩⟩
            · intro a V hI hdep hfree
              have gd : slot a 117 = .bool true := (hdep 2 (by decide)).1 _ rfl
              have e17 := slot_raw (show slot a 17 = .int .i64 0 from (hfree 17 (by kernel_rfl)).trans rfl)
              exact ok_value (v := .int .i64 0) (wanted_at (j := 2) rfl rfl gd rfl) (by simp [execOp, go_sem, e17]) (by intro c; simp) (fun _ _ => trivial) ⟨_, rfl, hI, Below.refl _ _, ⟨fun u h => Option.some.inj h, fun e => absurd e (by decide), fun e => absurd e (by decide)⟩⟩
            · intro a V hI hdep hfree
              have gd : slot a 117 = .bool true := (hdep 2 (by decide)).1 _ rfl
              have e118 := slot_raw (show slot a 118 = .int .i64 0 from (hdep 3 (by decide)).1 _ rfl)
              exact ok_value (v := .bool true) (wanted_at (j := 2) rfl rfl gd rfl) (by simp [execOp, go_sem, e118]) (by intro c; simp) (fun _ _ => trivial) ⟨_, rfl, hI, Below.refl _ _, ⟨fun u h => Option.some.inj h, fun e => absurd e (by decide), fun e => absurd e (by decide)⟩⟩
            · intro a V hI hdep hfree
              have e117 := slot_raw (show slot a 117 = .bool true from (hdep 2 (by decide)).1 _ rfl)
              have e119 := slot_raw (show slot a 119 = .bool true from (hdep 4 (by decide)).1 _ rfl)
              exact ok_value (v := .bool true) (wanted_none rfl) (by simp [execOp, go_sem, e117, e119]) (by intro c; simp) (fun _ _ => trivial) ⟨_, rfl, hI, Below.refl _ _, ⟨fun u h => Option.some.inj h, fun e => absurd e (by decide), fun e => absurd e (by decide)⟩⟩
            · intro a V hI hdep hfree
              have e120 := slot_raw (show slot a 120 = .bool true from (hdep 5 (by decide)).1 _ rfl)
              exact ok_value (v := .bool true) (wanted_none rfl) (by simp [execOp, go_sem, e120]) (by intro c; simp) (fun _ _ => trivial) ⟨_, rfl, hI, Below.refl _ _, ⟨fun u h => Option.some.inj h, fun e => absurd e (by decide), fun e => absurd e (by decide)⟩⟩
            · intro a V hI hdep hfree
              have gd : slot a 121 = .bool true := (hdep 6 (by decide)).1 _ rfl
              have e11 := slot_raw (show slot a 11 = .int .i64 0 from (hfree 11 (by kernel_rfl)).trans rfl)
              exact ok_value (v := .int .i64 0) (wanted_at (j := 6) rfl rfl gd rfl) (by simp [execOp, go_sem, e11]) (by intro c; simp) (fun _ _ => trivial) ⟨_, rfl, hI, Below.refl _ _, ⟨fun u h => Option.some.inj h, fun e => absurd e (by decide), fun e => absurd e (by decide)⟩⟩
            · intro a V hI hdep hfree
              have gd : slot a 121 = .bool true := (hdep 6 (by decide)).1 _ rfl
              have e12 := slot_raw (show slot a 12 = .int .i64 0 from (hfree 12 (by kernel_rfl)).trans rfl)
              exact ok_value (v := .int .i64 0) (wanted_at (j := 6) rfl rfl gd rfl) (by simp [execOp, go_sem, e12]) (by intro c; simp) (fun _ _ => trivial) ⟨_, rfl, hI, Below.refl _ _, ⟨fun u h => Option.some.inj h, fun e => absurd e (by decide), fun e => absurd e (by decide)⟩⟩
            · intro a V hI hdep hfree
              have gd : slot a 121 = .bool true := (hdep 6 (by decide)).1 _ rfl
              have e122 := slot_raw (show slot a 122 = .int .i64 0 from (hdep 7 (by decide)).1 _ rfl)
              have e123 := slot_raw (show slot a 123 = .int .i64 0 from (hdep 8 (by decide)).1 _ rfl)
              exact ok_value (v := .int .i64 0) (wanted_at (j := 6) rfl rfl gd rfl) (by simp [execOp, go_sem, e122, e123, hwr]) (by intro c; simp) (fun _ _ => trivial) ⟨_, rfl, hI, Below.refl _ _, ⟨fun u h => Option.some.inj h, fun e => absurd e (by decide), fun e => absurd e (by decide)⟩⟩
            · intro a V hI hdep hfree
              have gd : slot a 121 = .bool true := (hdep 6 (by decide)).1 _ rfl
              have e15 := slot_raw (show slot a 15 = .int .i64 0 from (hfree 15 (by kernel_rfl)).trans rfl)
              exact ok_value (v := .int .i64 0) (wanted_at (j := 6) rfl rfl gd rfl) (by simp [execOp, go_sem, e15]) (by intro c; simp) (fun _ _ => trivial) ⟨_, rfl, hI, Below.refl _ _, ⟨fun u h => Option.some.inj h, fun e => absurd e (by decide), fun e => absurd e (by decide)⟩⟩
            · intro a V hI hdep hfree
              have gd : slot a 121 = .bool true := (hdep 6 (by decide)).1 _ rfl
              have e124 := slot_raw (show slot a 124 = .int .i64 0 from (hdep 9 (by decide)).1 _ rfl)
              have e125 := slot_raw (show slot a 125 = .int .i64 0 from (hdep 10 (by decide)).1 _ rfl)
              exact ok_value (v := .int .i64 0) (wanted_at (j := 6) rfl rfl gd rfl) (by simp [execOp, go_sem, e124, e125, hwr]) (by intro c; simp) (fun _ _ => trivial) ⟨_, rfl, hI, Below.refl _ _, ⟨fun u h => Option.some.inj h, fun e => absurd e (by decide), fun e => absurd e (by decide)⟩⟩
            · intro a V hI hdep hfree
              have gd : slot a 121 = .bool true := (hdep 6 (by decide)).1 _ rfl
              have e16 := slot_raw (show slot a 16 = .int .i64 0 from (hfree 16 (by kernel_rfl)).trans rfl)
              exact ok_value (v := .int .i64 0) (wanted_at (j := 6) rfl rfl gd rfl) (by simp [execOp, go_sem, e16]) (by intro c; simp) (fun _ _ => trivial) ⟨_, rfl, hI, Below.refl _ _, ⟨fun u h => Option.some.inj h, fun e => absurd e (by decide), fun e => absurd e (by decide)⟩⟩
            · intro a V hI hdep hfree
              have gd : slot a 121 = .bool true := (hdep 6 (by decide)).1 _ rfl
              have e126 := slot_raw (show slot a 126 = .int .i64 0 from (hdep 11 (by decide)).1 _ rfl)
              have e127 := slot_raw (show slot a 127 = .int .i64 0 from (hdep 12 (by decide)).1 _ rfl)
              exact ok_value (v := .int .i64 0) (wanted_at (j := 6) rfl rfl gd rfl) (by simp [execOp, go_sem, e126, e127, hwr]) (by intro c; simp) (fun _ _ => trivial) ⟨_, rfl, hI, Below.refl _ _, ⟨fun u h => Option.some.inj h, fun e => absurd e (by decide), fun e => absurd e (by decide)⟩⟩
            · intro a V hI hdep hfree
              have gd : slot a 121 = .bool true := (hdep 6 (by decide)).1 _ rfl
              have e128 := slot_raw (show slot a 128 = .int .i64 0 from (hdep 13 (by decide)).1 _ rfl)
              exact ok_value (v := .bool true) (wanted_at (j := 6) rfl rfl gd rfl) (by simp [execOp, go_sem, e128]) (by intro c; simp) (fun _ _ => trivial) ⟨_, rfl, hI, Below.refl _ _, ⟨fun u h => Option.some.inj h, fun e => absurd e (by decide), fun e => absurd e (by decide)⟩⟩
            · intro a V hI hdep hfree
              have e121 := slot_raw (show slot a 121 = .bool true from (hdep 6 (by decide)).1 _ rfl)
              have e129 := slot_raw (show slot a 129 = .bool true from (hdep 14 (by decide)).1 _ rfl)
              exact ok_value (v := .bool true) (wanted_none rfl) (by simp [execOp, go_sem, e121, e129]) (by intro c; simp) (fun _ _ => trivial) ⟨_, rfl, hI, Below.refl _ _, ⟨fun u h => Option.some.inj h, fun e => absurd e (by decide), fun e => absurd e (by decide)⟩⟩
            · intro a V hI hdep hfree
              have e130 := slot_raw (show slot a 130 = .bool true from (hdep 15 (by decide)).1 _ rfl)
              exact ok_value (v := .bool true) (wanted_none rfl) (by simp [execOp, go_sem, e130]) (by intro c; simp) (fun _ _ => trivial) ⟨_, rfl, hI, Below.refl _ _, ⟨fun u h => Option.some.inj h, fun e => absurd e (by decide), fun e => absurd e (by decide)⟩⟩
            · intro a V hI hdep hfree
              have gd : slot a 131 = .bool true := (hdep 16 (by decide)).1 _ rfl
              have e10 := slot_raw (show slot a 10 = .pointer (some ⟨b1, 0, none⟩) from (hfree 10 (by kernel_rfl)).trans rfl)
              have c0 : V.cell? ⟨b1, 0, none⟩ = _ := hI.two.c1 0 _ rfl
              have c1 : V.cell? ⟨b1, 1, none⟩ = _ := hI.two.c1 1 _ rfl
              have c2 : V.cell? ⟨b1, 2, none⟩ = _ := hI.two.c1 2 _ rfl
              exact ok_value (v := .agg #[.slice adG1 m capG1, .int .i64 secs, .slice adL1 n capL1]) (wanted_at (j := 16) rfl rfl gd rfl) (by simp [execOp, go_sem, e10, c0, c1, c2]) (by intro c; simp) (fun _ _ => trivial) ⟨_, rfl, hI, Below.refl _ _, ⟨fun u h => Option.some.inj h, fun e => absurd e (by decide), fun e => absurd e (by decide)⟩⟩
            · intro a V hI hdep hfree
              have gd : slot a 131 = .bool true := (hdep 16 (by decide)).1 _ rfl
              have e132 := slot_raw (show slot a 132 = .agg #[.slice adG1 m capG1, .int .i64 secs, .slice adL1 n capL1] from (hdep 17 (by decide)).1 _ rfl)
              refine ok_call (wanted_at (j := 16) rfl rfl gd rfl) (f := 15) (args := #[.agg #[.slice adG1 m capG1, .int .i64 secs, .slice adL1 n capL1]]) (by simp [go_sem, e132, eg1]) (by intro c; simp) ((plain_at V adG1 m capG1 _ secs xs n hI.two.l1 hn).mono ?_)
              rintro e V2 ⟨vL', rfl, hown, hb⟩
              exact ⟨_, rfl, _, rfl, hI.grow hb, hb, ⟨fun u h => (by cases h), fun _ => ⟨vL', rfl, Rd.of_own hown⟩, fun e => absurd e (by decide)⟩⟩
            · intro a V hI hdep hfree
              have gd : slot a 131 = .bool true := (hdep 16 (by decide)).1 _ rfl
              have e2 := slot_raw (show slot a 2 = .pointer (some ⟨w.heap.size, 0, none⟩) from (hfree 2 (by kernel_rfl)).trans rfl)
              have c0 : V.cell? ⟨w.heap.size, 0, none⟩ = _ := hI.c0 0 _ rfl
              have c1 : V.cell? ⟨w.heap.size, 1, none⟩ = _ := hI.c0 1 _ rfl
              have c2 : V.cell? ⟨w.heap.size, 2, none⟩ = _ := hI.c0 2 _ rfl
              exact ok_value (v := .agg #[.slice adG m cG, .int .i64 secs, .slice adL n cL]) (wanted_at (j := 16) rfl rfl gd rfl) (by simp [execOp, go_sem, e2, c0, c1, c2]) (by intro c; simp) (fun _ _ => trivial) ⟨_, rfl, hI, Below.refl _ _, ⟨fun u h => Option.some.inj h, fun e => absurd e (by decide), fun e => absurd e (by decide)⟩⟩
            · intro a V hI hdep hfree
              have gd : slot a 131 = .bool true := (hdep 16 (by decide)).1 _ rfl
              have e134 := slot_raw (show slot a 134 = .agg #[.slice adG m cG, .int .i64 secs, .slice adL n cL] from (hdep 19 (by decide)).1 _ rfl)
              obtain ⟨u1, q1, r1⟩ := (hdep 18 (by decide)).2.1 rfl
              have e133 := slot_raw (show slot a 133 = _ from q1)
              refine ok_call (wanted_at (j := 16) rfl rfl gd rfl) (f := 14) (args := #[.agg #[.slice adG1 m capG1, .int .i64 secs, u1], .agg #[.slice adG m cG, .int .i64 secs, .slice adL n cL]]) (by simp [go_sem, e134, eg2, e133]) (by intro c; simp) ((same_at V _ _ _ _ secs gs xs m n hI.two.g1 r1 hI.g0 hI.l0 hm hn).mono ?_)
              rintro e V2 ⟨rfl, hb⟩
              exact ⟨_, rfl, _, rfl, hI.grow hb, hb, ⟨fun u h => Option.some.inj h, fun e => absurd e (by decide), fun e => absurd e (by decide)⟩⟩
            · intro a V hI hdep hfree
              have e131 := slot_raw (show slot a 131 = .bool true from (hdep 16 (by decide)).1 _ rfl)
              have e135 := slot_raw (show slot a 135 = .bool true from (hdep 20 (by decide)).1 _ rfl)
              exact ok_value (v := .bool true) (wanted_none rfl) (by simp [execOp, go_sem, e131, e135]) (by intro c; simp) (fun _ _ => trivial) ⟨_, rfl, hI, Below.refl _ _, ⟨fun u h => Option.some.inj h, fun e => absurd e (by decide), fun e => absurd e (by decide)⟩⟩
            · intro a V hI hdep hfree
              have e136 := slot_raw (show slot a 136 = .bool true from (hdep 21 (by decide)).1 _ rfl)
              exact ok_value (v := .bool true) (wanted_none rfl) (by simp [execOp, go_sem, e136]) (by intro c; simp) (fun _ _ => trivial) ⟨_, rfl, hI, Below.refl _ _, ⟨fun u h => Option.some.inj h, fun e => absurd e (by decide), fun e => absurd e (by decide)⟩⟩
            · intro a V hI hdep hfree
              have gd : slot a 137 = .bool true := (hdep 22 (by decide)).1 _ rfl
              have e14 := slot_raw (show slot a 14 = .pointer (some ⟨b2, 0, none⟩) from (hfree 14 (by kernel_rfl)).trans rfl)
              have c0 : V.cell? ⟨b2, 0, none⟩ = _ := hI.two.c2 0 _ rfl
              have c1 : V.cell? ⟨b2, 1, none⟩ = _ := hI.two.c2 1 _ rfl
              have c2 : V.cell? ⟨b2, 2, none⟩ = _ := hI.two.c2 2 _ rfl
              exact ok_value (v := .agg #[.slice adG2 m capG2, .int .i64 secs, .slice adL2 n capL2]) (wanted_at (j := 22) rfl rfl gd rfl) (by simp [execOp, go_sem, e14, c0, c1, c2]) (by intro c; simp) (fun _ _ => trivial) ⟨_, rfl, hI, Below.refl _ _, ⟨fun u h => Option.some.inj h, fun e => absurd e (by decide), fun e => absurd e (by decide)⟩⟩
            · intro a V hI hdep hfree
              have gd : slot a 137 = .bool true := (hdep 22 (by decide)).1 _ rfl
              have e138 := slot_raw (show slot a 138 = .agg #[.slice adG2 m capG2, .int .i64 secs, .slice adL2 n capL2] from (hdep 23 (by decide)).1 _ rfl)
              refine ok_call (wanted_at (j := 22) rfl rfl gd rfl) (f := 15) (args := #[.agg #[.slice adG2 m capG2, .int .i64 secs, .slice adL2 n capL2]]) (by simp [go_sem, e138, eg1]) (by intro c; simp) ((plain_at V adG2 m capG2 _ secs xs n hI.two.l2 hn).mono ?_)
              rintro e V2 ⟨vL', rfl, hown, hb⟩
              exact ⟨_, rfl, _, rfl, hI.grow hb, hb, ⟨fun u h => (by cases h), fun e => absurd e (by decide), fun _ => ⟨vL', rfl, Rd.of_own hown⟩⟩⟩
            · intro a V hI hdep hfree
              have gd : slot a 137 = .bool true := (hdep 22 (by decide)).1 _ rfl
              have e2 := slot_raw (show slot a 2 = .pointer (some ⟨w.heap.size, 0, none⟩) from (hfree 2 (by kernel_rfl)).trans rfl)
              have c0 : V.cell? ⟨w.heap.size, 0, none⟩ = _ := hI.c0 0 _ rfl
              have c1 : V.cell? ⟨w.heap.size, 1, none⟩ = _ := hI.c0 1 _ rfl
              have c2 : V.cell? ⟨w.heap.size, 2, none⟩ = _ := hI.c0 2 _ rfl
              exact ok_value (v := .agg #[.slice adG m cG, .int .i64 secs, .slice adL n cL]) (wanted_at (j := 22) rfl rfl gd rfl) (by simp [execOp, go_sem, e2, c0, c1, c2]) (by intro c; simp) (fun _ _ => trivial) ⟨_, rfl, hI, Below.refl _ _, ⟨fun u h => Option.some.inj h, fun e => absurd e (by decide), fun e => absurd e (by decide)⟩⟩
            · intro a V hI hdep hfree
              have gd : slot a 137 = .bool true := (hdep 22 (by decide)).1 _ rfl
              have e140 := slot_raw (show slot a 140 = .agg #[.slice adG m cG, .int .i64 secs, .slice adL n cL] from (hdep 25 (by decide)).1 _ rfl)
              obtain ⟨u1, q1, r1⟩ := (hdep 24 (by decide)).2.2 rfl
              have e139 := slot_raw (show slot a 139 = _ from q1)
              refine ok_call (wanted_at (j := 22) rfl rfl gd rfl) (f := 14) (args := #[.agg #[.slice adG2 m capG2, .int .i64 secs, u1], .agg #[.slice adG m cG, .int .i64 secs, .slice adL n cL]]) (by simp [go_sem, e140, eg2, e139]) (by intro c; simp) ((same_at V _ _ _ _ secs gs xs m n hI.two.g2 r1 hI.g0 hI.l0 hm hn).mono ?_)
              rintro e V2 ⟨rfl, hb⟩
              exact ⟨_, rfl, _, rfl, hI.grow hb, hb, ⟨fun u h => Option.some.inj h, fun e => absurd e (by decide), fun e => absurd e (by decide)⟩⟩
            · intro a V hI hdep hfree
              have e137 := slot_raw (show slot a 137 = .bool true from (hdep 22 (by decide)).1 _ rfl)
              have e141 := slot_raw (show slot a 141 = .bool true from (hdep 26 (by decide)).1 _ rfl)
              exact ok_value (v := .bool true) (wanted_none rfl) (by simp [execOp, go_sem, e137, e141]) (by intro c; simp) (fun _ _ => trivial) ⟨_, rfl, hI, Below.refl _ _, ⟨fun u h => Option.some.inj h, fun e => absurd e (by decide), fun e => absurd e (by decide)⟩⟩
            · intro a V hI hdep hfree
              have e142 := slot_raw (show slot a 142 = .bool true from (hdep 27 (by decide)).1 _ rfl)
              exact ok_value (v := .bool true) (wanted_none rfl) (by simp [execOp, go_sem, e142]) (by intro c; simp) (fun _ _ => trivial) ⟨_, rfl, hI, Below.refl _ _, ⟨fun u h => Option.some.inj h, fun e => absurd e (by decide), fun e => absurd e (by decide)⟩⟩
            · intro a V hI hdep hfree
              have gd : slot a 143 = .bool true := (hdep 28 (by decide)).1 _ rfl
              have e18 := slot_raw (show slot a 18 = .string t from (hfree 18 (by kernel_rfl)).trans rfl)
              exact ok_value (v := .string t) (wanted_at (j := 28) rfl rfl gd rfl) (by simp [execOp, go_sem, e18]) (by intro c; simp) (fun _ _ => trivial) ⟨_, rfl, hI, Below.refl _ _, ⟨fun u h => Option.some.inj h, fun e => absurd e (by decide), fun e => absurd e (by decide)⟩⟩
            · intro a V hI hdep hfree
              have gd : slot a 143 = .bool true := (hdep 28 (by decide)).1 _ rfl
              have e5 := slot_raw (show slot a 5 = .string t from (hfree 5 (by kernel_rfl)).trans rfl)
              exact ok_value (v := .string t) (wanted_at (j := 28) rfl rfl gd rfl) (by simp [execOp, go_sem, e5]) (by intro c; simp) (fun _ _ => trivial) ⟨_, rfl, hI, Below.refl _ _, ⟨fun u h => Option.some.inj h, fun e => absurd e (by decide), fun e => absurd e (by decide)⟩⟩
            · intro a V hI hdep hfree
              have gd : slot a 143 = .bool true := (hdep 28 (by decide)).1 _ rfl
              have e144 := slot_raw (show slot a 144 = .string t from (hdep 29 (by decide)).1 _ rfl)
              have e145 := slot_raw (show slot a 145 = .string t from (hdep 30 (by decide)).1 _ rfl)
              exact ok_value (v := .bool true) (wanted_at (j := 28) rfl rfl gd rfl) (by simp [execOp, go_sem, e144, e145]) (by intro c; simp) (fun _ _ => trivial) ⟨_, rfl, hI, Below.refl _ _, ⟨fun u h => Option.some.inj h, fun e => absurd e (by decide), fun e => absurd e (by decide)⟩⟩
            · intro a V hI hdep hfree
              have e143 := slot_raw (show slot a 143 = .bool true from (hdep 28 (by decide)).1 _ rfl)
              have e146 := slot_raw (show slot a 146 = .bool true from (hdep 31 (by decide)).1 _ rfl)
              exact ok_value (v := .bool true) (wanted_none rfl) (by simp [execOp, go_sem, e143, e146]) (by intro c; simp) (fun _ _ => trivial) ⟨_, rfl, hI, Below.refl _ _, ⟨fun u h => Option.some.inj h, fun e => absurd e (by decide), fun e => absurd e (by decide)⟩⟩
            · intro a V hI hdep hfree
              have e147 := slot_raw (show slot a 147 = .bool true from (hdep 32 (by decide)).1 _ rfl)
              exact ok_value (v := .bool true) (wanted_none rfl) (by simp [execOp, go_sem, e147]) (by intro c; simp) (fun _ _ => trivial) ⟨_, rfl, hI, Below.refl _ _, ⟨fun u h => Option.some.inj h, fun e => absurd e (by decide), fun e => absurd e (by decide)⟩⟩
            · intro a V hI hdep hfree
              have gd : slot a 148 = .bool true := (hdep 33 (by decide)).1 _ rfl
              have e19 := slot_raw (show slot a 19 = .int .i64 (C : Int) from (hfree 19 (by kernel_rfl)).trans rfl)
              exact ok_value (v := .int .i64 (C : Int)) (wanted_at (j := 33) rfl rfl gd rfl) (by simp [execOp, go_sem, e19]) (by intro c; simp) (fun _ _ => trivial) ⟨_, rfl, hI, Below.refl _ _, ⟨fun u h => Option.some.inj h, fun e => absurd e (by decide), fun e => absurd e (by decide)⟩⟩
            · intro a V hI hdep hfree
              have gd : slot a 148 = .bool true := (hdep 33 (by decide)).1 _ rfl
              have e149 := slot_raw (show slot a 149 = .int .i64 (C : Int) from (hdep 34 (by decide)).1 _ rfl)
              exact ok_value (v := .bool true) (wanted_at (j := 33) rfl rfl gd rfl) (by simp [execOp, go_sem, e149, hC2]) (by intro c; simp) (fun _ _ => trivial) ⟨_, rfl, hI, Below.refl _ _, ⟨fun u h => Option.some.inj h, fun e => absurd e (by decide), fun e => absurd e (by decide)⟩⟩
            · intro a V hI hdep hfree
              have e148 := slot_raw (show slot a 148 = .bool true from (hdep 33 (by decide)).1 _ rfl)
              have e150 := slot_raw (show slot a 150 = .bool true from (hdep 35 (by decide)).1 _ rfl)
              exact ok_value (v := .bool true) (wanted_none rfl) (by simp [execOp, go_sem, e148, e150]) (by intro c; simp) (fun _ _ => trivial) ⟨_, rfl, hI, Below.refl _ _, ⟨fun u h => Option.some.inj h, fun e => absurd e (by decide), fun e => absurd e (by decide)⟩⟩
            · intro a V hI hdep hfree
              have e151 := slot_raw (show slot a 151 = .bool true from (hdep 36 (by decide)).1 _ rfl)
              exact ok_value (v := .bool true) (wanted_none rfl) (by simp [execOp, go_sem, e151]) (by intro c; simp) (fun _ _ => trivial) ⟨_, rfl, hI, Below.refl _ _, ⟨fun u h => Option.some.inj h, fun e => absurd e (by decide), fun e => absurd e (by decide)⟩⟩
            · intro a2 V hsz hdf hrest hval hI2
              have e4 : a2.tmps.getD 4 undef = .bool true := (hval 37 (by decide)).1 _ rfl
              have hbel := hI2.two.bel
              gi_wp2_with fail
              go_wp2_with fail
              refine bodyPost_ret (results_tmp rfl _ _ _) hdf (Ret.mk e4 hbel)

theorem walk_all (w : World) (vG vL : Value) (secs : Int) (more : ByteArray) (m n : Nat) (gs : List (Int × Int)) (xs : List Act5) (hm : m ≤ 9223372036854775807) (hn : n ≤ 9223372036854775807) (hG : Rd w 2 m vG (flatG gs)) (hL : Rd w 5 n vL (flatA xs)) :
    Calls Try.prog 6 #[.agg #[vG, .int .i64 secs, vL], .string more] w (Ret (.bool true) w) := by
  by_cases h : fewS gs xs = true ∧ more.size ≤ 100
  · obtain ⟨hf, hmo⟩ := h
    have hmg : m = gs.length := by obtain ⟨_, _, _, _, _, h⟩ := hG; exact flatG_n h.len
    have hnx : n = xs.length := by obtain ⟨_, _, _, _, _, h⟩ := hL; exact flatA_n h.len
    have hf2 := hf
    unfold fewS at hf2
    simp only [Bool.and_eq_true, decide_eq_true_eq] at hf2
    obtain ⟨adG, bG, oG, cG, rfl, hG⟩ := hG
    obtain ⟨adL, bL, oL, cL, rfl, hL⟩ := hL
    by_cases hr : rightS gs secs xs = 0
    · exact walk_yes w adG cG adL cL secs more m n gs xs (by omega) (by omega) ⟨_, _, _, _, rfl, hG⟩ ⟨_, _, _, _, rfl, hL⟩ hf hmo hr
    · exact walk_no w adG cG _ secs more m n gs xs (by omega) (by omega) ⟨_, _, _, _, rfl, hG⟩ ⟨_, _, _, _, rfl, hL⟩ hf hmo hr
  · refine walk_out w vG vL secs more m n gs xs hm hn hG hL ?_
    by_cases hf : fewS gs xs = true
    · exact .inr (by rcases Nat.lt_or_ge 100 more.size with h2 | h2; exact h2; exact absurd ⟨hf, h2⟩ h)
    · exact .inl (by simpa using hf)

set_option maxRecDepth 100000 in
theorem lawWalk : LawWalk 6 Try.f6.params := by
  intro H enc W base args ds p hval hA _ _
  rw [Try.params6] at hA hval
  obtain ⟨v0, v1, d0, d1, p0, p1, rfl, rfl, rfl, h0, h1⟩ := trodAll_two hA
  obtain ⟨vG, vL, secs, m, n, gs, xs, rfl, hm, hn, hG, hL⟩ := open_script (hval 0 47 v0 rfl rfl) h0
  obtain ⟨s, rfl, _, _, hs⟩ := open_string Try.underlying9 (hval 1 9 v1 rfl rfl) h1
  exact walk_all W vG vL secs s m n gs xs hm hn hG hL

set_option maxRecDepth 100000 in
theorem holds : Rows.ScriptBackSaid :=
  OpenClaim.holds_of_wide 6 Try.f6 rfl rfl rfl rfl rfl rfl rfl ⟨rfl, rfl, rfl, rfl, rfl⟩ rfl rfl rfl rfl rfl (by kernel_rfl) Try.func6 (by kernel_rfl)
    (of_decide_eq_true (by kernel_rfl)) (by unfold Func.isWrapper; first | (rw [if_pos (by decide +kernel)]; kernel_rfl) | (rw [if_neg (by decide +kernel)]; exact ⟨rfl, rfl⟩))
    (fun os started H enc _ => law_lifted (s := Rows.scriptBackSpec) started (by kernel_rfl) Try.func6 rfl rfl Try.underlying4 (by kernel_rfl)
      (fun ds h => by
        rw [Try.params6] at h
        match ds, h with
        | [d1, d2], _ => rfl)
      (ChangeSpec.witness6 (enc := enc) (C := Try.checked) false ⟨#[], #[.agg #[.slice none 0 0, .int .i64 0, .slice none 0 0], .string ⟨#[]⟩], []⟩ 8 (by kernel_rfl) (by kernel_rfl) (by kernel_rfl) (by kernel_rfl))
      lawWalk)
#print axioms holds

end ScriptBack
end Go.Proofs.Ytajionjffijffaa

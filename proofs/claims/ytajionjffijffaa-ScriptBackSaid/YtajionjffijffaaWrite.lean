/-
  script.Write: a right script, written.
-/
import Derived.Deep.DeepCutAuto
import Derived.Test.YtajionjffijffaaBld
import Derived.Test.YtajionjffijffaaRightR
import Derived.Test.YtajionjffijffaaDecP
namespace Go.Proofs.Ytajionjffijffaa
open Go.RowKit Go.Sort

def grpB (g : Int × Int) : List UInt8 := 32 :: (if g.1 = 0 then 109 else 112) :: decI g.2
def numB (n : Int) : List UInt8 := 32 :: decI n
def lineB (x : Act5) : List UInt8 := x.word.data.toList ++ ((List.range ((wordsS x.word).getD 0)).map fun i => numB (x.nth i)).flatten ++ [10]
def headB (secs : Int) (gs : List (Int × Int)) : List UInt8 := 112 :: 111 :: 111 :: 108 :: 32 :: decI secs ++ (gs.map grpB).flatten ++ [10]
def writeB (gs : List (Int × Int)) (secs : Int) (xs : List Act5) : List UInt8 := headB secs gs ++ (xs.map lineB).flatten

/-- what lies in memory while a script is written: the script's box, the builder with the bytes T -/
structure WI (w : World) (box : Array Value) (b : Nat) (T : List UInt8) (W : World) : Prop where
  bel : Below w.heap.size w W
  lt : w.heap.size < b
  box : W.heap[w.heap.size]? = some (.cells box 28 (0, 0))
  bld : Bld (b + 1) b (Lib.byteCells T) W
theorem WI.size {w W : World} {box : Array Value} {b : Nat} {T : List UInt8} (h : WI w box b T W) : b + 1 ≤ W.heap.size := h.bld.lt
theorem WI.wrote {w W W' : World} {box : Array Value} {b : Nat} {T T' : List UInt8} (h : WI w box b T W) (hu : BldU (b + 1) b (Lib.byteCells T') W') (hw : Wr (b + 1) b W W') : WI w box b T' W' := by
  have hl := h.lt
  have hz := h.size
  have hx : ∀ k, k < b → W'.heap[k]? = W.heap[k]? := fun k hk => hw.off.same k (by omega) (by omega)
  exact ⟨h.bel.trans ⟨hw.off.base.os, hw.off.base.tape, hw.off.base.output, hw.off.size, fun k hk => hx k (by omega)⟩, hl, (hx _ hl).trans h.box, hu.bld⟩
theorem WI.grow {w W W' : World} {box : Array Value} {b : Nat} {T : List UInt8} (h : WI w box b T W) (hb : Below W.heap.size W W') : WI w box b T W' :=
  ⟨h.bel.trans (hb.mono h.bel.size), h.lt, (hb.block _ (by have := h.size; have := h.lt; omega)).trans h.box, h.bld.grow hb⟩
theorem WI.cell {w W : World} {box : Array Value} {b : Nat} {T : List UInt8} (h : WI w box b T W) (i : Nat) : W.cell? ⟨w.heap.size, i, none⟩ = box[i]? := by rw [cell_of_row W _ i _ _ _ h.box]
theorem bytes_app (a b : List UInt8) : Lib.byteCells (a ++ b) = Lib.byteCells a ++ Lib.byteCells b := by simp [Lib.byteCells]
theorem WI.str {w W : World} {box : Array Value} {b : Nat} {T : List UInt8} (h : WI w box b T W) (s : ByteArray) (hl : T.length + s.size ≤ 100000000) :
    Calls Try.prog 29 #[.pointer (some ⟨b, 0, none⟩), .string s] W fun e W' => e = .returned (.tuple #[.int .i64 s.size, .nilIface]) ∧ WI w box b (T ++ s.data.toList) W' ∧ Wr (b + 1) b W W' := by
  refine (WriteString_b (b + 1) b _ s W h.bld (by rw [Lib.byteCells_length]; omega) h.size).mono ?_
  rintro e W' ⟨rfl, hu, hw⟩
  refine ⟨rfl, h.wrote ?_ hw, hw⟩
  rw [bytes_app]
  exact hu
theorem WI.byte {w W : World} {box : Array Value} {b : Nat} {T : List UInt8} (h : WI w box b T W) (c : UInt8) (z : Int) (hz : (c.toNat : Int) = z) (hl : T.length + 1 ≤ 100000000) :
    Calls Try.prog 32 #[.pointer (some ⟨b, 0, none⟩), .int .u8 z] W fun e W' => e = .returned .nilIface ∧ WI w box b (T ++ [c]) W' ∧ Wr (b + 1) b W W' := by
  subst hz
  refine (WriteByte_b (b + 1) b _ (c.toNat : Int) W h.bld (by rw [Lib.byteCells_length]; omega) h.size).mono ?_
  rintro e W' ⟨rfl, hu, hw⟩
  refine ⟨rfl, h.wrote ?_ hw, hw⟩
  rw [bytes_app]
  exact hu
theorem WI.rune {w W : World} {box : Array Value} {b : Nat} {T : List UInt8} (h : WI w box b T W) (c : UInt8) (hc : c.toNat ≤ 127) (z : Int) (hz : (c.toNat : Int) = z) (hl : T.length + 4 ≤ 100000000) :
    Calls Try.prog 33 #[.pointer (some ⟨b, 0, none⟩), .int .i32 z] W fun e W' => e = .returned (.tuple #[.int .i64 1, .nilIface]) ∧ WI w box b (T ++ [c]) W' ∧ Wr (b + 1) b W W' := by
  subst hz
  refine (WriteRune_b (b + 1) b _ (c.toNat : Int) (by omega) (by omega) W h.bld (by rw [Lib.byteCells_length]; omega) h.size).mono ?_
  rintro e W' ⟨rfl, hu, hw⟩
  refine ⟨rfl, h.wrote ?_ hw, hw⟩
  rw [bytes_app]
  exact hu
/-- another block of the call's own stays, where it is no row of bytes -/
theorem Wr.other {lo b : Nat} {W W' : World} (h : Wr lo b W W') {k : Nat} {cs : Array Value} {t : TypeId} {fr : Nat × Nat} (hk : W.heap[k]? = some (.cells cs t fr)) (hb : k ≠ b) (ht : t ≠ 5) : W'.heap[k]? = some (.cells cs t fr) :=
  h.kept k _ hk (by simpa using hb) (fun c fz e => by injection e with _ e2 _; exact ht e2)

set_option maxRecDepth 20000 in
set_option maxHeartbeats 1000000 in
theorem Write_no (w : World) (vG vL : Value) (secs : Int) (gs : List (Int × Int)) (xs : List Act5) (m n : Nat) (hG : Rd w 2 m vG (flatG gs)) (hL : Rd w 5 n vL (flatA xs)) (hm : m < 1000000) (hn : n < 1000000) (hr : rightS gs secs xs ≠ 0) :
    Calls Try.prog 17 #[.agg #[vG, .int .i64 secs, vL]] w (Ret (.tuple #[.string ⟨#[]⟩, .int .i64 (rightS gs secs xs)]) w) := by
  have cR := Calls.at (Right_rd (secs := secs) (hG.grow (bel1' w (.cells #[vG, .int .i64 secs, vL] 28))) hm (hL.grow (bel1' w (.cells #[vG, .int .i64 secs, vL] 28))) hn)
  have hri1 : (rightS gs secs xs == 0) = false := by simpa using hr
  have hri2 : (rightS gs secs xs != 0) = true := by simpa using hr
  go_enter Try.func17, Try.ntmps17
  go_wp2_with (go_at_call 19; refine cR.mono ?_; rintro e w' ⟨rfl, g, rfl⟩)
  go_ret2
  exact Ret.mk rfl (by (repeat' (first | (with_reducible exact Below.refl _ _) | (with_reducible refine belowGrU ?_ _) | (with_reducible refine belowAlloc ?_ _) | (with_reducible refine Below.setCell ?_ ?_ _) | (with_reducible refine Below.drew ?_) | (simp [go_sem]; done) | (simp [go_sem]; omega))))

theorem decI_len (n : Int) (h0 : -9007199254740992 ≤ n) (h1 : n ≤ 9007199254740992) : (decI n).length ≤ 19 := by
  have hl : (decN n.natAbs).length ≤ 18 := decN_len20 17 n.natAbs (by have : (10 : Nat) ^ 18 = 1000000000000000000 := rfl; omega)
  unfold decI
  split
  · rw [List.length_cons]; omega
  · omega
theorem dec_out (n : Int) (h0 : -9007199254740992 ≤ n) (h1 : n ≤ 9007199254740992) : ∃ D : ByteArray, ofL (decI n) = D ∧ D.data.toList = decI n ∧ D.size ≤ 19 :=
  ⟨_, rfl, ofL_list _, by rw [ofL_size]; exact decI_len n h0 h1⟩
def preG (secs : Int) (gs : List (Int × Int)) : List UInt8 := 112 :: 111 :: 111 :: 108 :: 32 :: decI secs ++ (gs.map grpB).flatten
theorem preG_len (secs : Int) (h1 : 0 ≤ secs) (h2 : secs ≤ 4096) : ∀ gs : List (Int × Int), (∀ g ∈ gs, 0 ≤ g.2 ∧ g.2 ≤ 8) → (preG secs gs).length ≤ 24 + gs.length * 21 := by
  intro gs hg
  have h := decI_len secs (by omega) (by omega)
  have : ((gs.map grpB).flatten).length ≤ gs.length * 21 := by
    induction gs with
    | nil => simp
    | cons g gs ih =>
      have h3 := hg g List.mem_cons_self
      have h4 := decI_len g.2 (by omega) (by omega)
      have h5 := ih fun x hx => hg x (List.mem_cons_of_mem _ hx)
      simp only [List.map_cons, List.flatten_cons, List.length_append, grpB, List.length_cons] at h5 ⊢
      omega
  unfold preG
  simp only [List.cons_append, List.length_cons, List.length_append]
  omega
theorem preG_snoc (secs : Int) (gs : List (Int × Int)) (g : Int × Int) : preG secs (gs ++ [g]) = preG secs gs ++ [32] ++ [if g.1 = 0 then 109 else 112] ++ decI g.2 := by simp [preG, grpB]

def okW (x : Act5) : Prop := x.word.size ≤ 8 ∧ (wordsS x.word).getD 0 ≤ 4 ∧ ∀ i, i < 4 → -9007199254740992 ≤ x.nth i ∧ x.nth i ≤ 9007199254740992
def numsB (x : Act5) (j : Nat) : List UInt8 := ((List.range j).map fun i => numB (x.nth i)).flatten
theorem numsB_succ (x : Act5) (j : Nat) : numsB x (j + 1) = numsB x j ++ 32 :: decI (x.nth j) := by
  unfold numsB
  rw [List.range_succ, List.map_append, List.flatten_append]
  simp [numB]
theorem numsB_len (x : Act5) (h : okW x) : ∀ j, j ≤ 4 → (numsB x j).length ≤ j * 20
  | 0, _ => by simp [numsB]
  | j + 1, hj => by
    have h1 := numsB_len x h j (by omega)
    have h2 := decI_len (x.nth j) (h.2.2 j (by omega)).1 (h.2.2 j (by omega)).2
    rw [numsB_succ, List.length_append, List.length_cons]
    omega
theorem lineB_len (x : Act5) (h : okW x) : (lineB x).length ≤ 100 := by
  have h1 := numsB_len x h _ h.2.1
  have h2 := h.1
  have h3 := h.2.1
  unfold numsB at h1
  unfold lineB
  simp only [List.length_append, List.length_singleton, size_list]
  omega
theorem linesB_len : ∀ xs : List Act5, (∀ x ∈ xs, okW x) → ((xs.map lineB).flatten).length ≤ xs.length * 100
  | [], _ => by simp
  | x :: xs, h => by
    have h1 := lineB_len x (h x List.mem_cons_self)
    have h2 := linesB_len xs fun y hy => h y (List.mem_cons_of_mem _ hy)
    simp only [List.map_cons, List.flatten_cons, List.length_append, List.length_cons]
    omega

set_option maxRecDepth 20000 in
set_option maxHeartbeats 4000000 in
theorem Write_yes (w : World) (vG vL : Value) (secs : Int) (gs : List (Int × Int)) (xs : List Act5) (m n : Nat) (hG : Rd w 2 m vG (flatG gs)) (hL : Rd w 5 n vL (flatA xs)) (hr : rightS gs secs xs = 0) (hm : m ≤ 4) (hn : n ≤ 1000) (hs1 : 0 ≤ secs) (hs2 : secs ≤ 4096)
    (hone : ∀ g ∈ gs, (g.1 = 0 ∨ g.1 = 1) ∧ 0 ≤ g.2 ∧ g.2 ≤ 8) (hact : ∀ x ∈ xs, okW x) :
    Calls Try.prog 17 #[.agg #[vG, .int .i64 secs, vL]] w (Ret (.tuple #[.string (ofL (writeB gs secs xs)), .int .i64 0]) w) := by
  have cR := Calls.at (Right_rd (secs := secs) (hG.grow (bel1' w (.cells #[vG, .int .i64 secs, vL] 28))) (by omega) (hL.grow (bel1' w (.cells #[vG, .int .i64 secs, vL] 28))) (by omega))
  rw [hr] at cR
  have cD := decimal_any secs (by omega) (by omega)
  obtain ⟨D, hD, hDl, hDz⟩ := dec_out secs (by omega) (by omega)
  rw [hD] at cD
  clear hD
  obtain ⟨adG, bG, oG, cG, rfl, hG⟩ := hG
  obtain ⟨adL, bL, oL, cL, rfl, hL⟩ := hL
  have HM := Lib.hid (flatG_n hG.len)
  have HN := Lib.hid (flatA_n hL.len)
  go_enter Try.func17, Try.ntmps17
  go_wp2_with (first | (go_at_call 19; refine cR.mono ?_; rintro e w' ⟨rfl, g, rfl⟩) | (go_at_call 31; with_reducible refine (cD.at _).mono ?_; rintro e w' ⟨rfl, g2, rfl⟩))
  have hW0 : WI w #[.slice adG m cG, .int .i64 secs, .slice adL n cL] (gr (w.alloc (.cells #[.slice adG m cG, .int .i64 secs, .slice adL n cL] 28)) g).heap.size [] (gr ((gr (w.alloc (.cells #[.slice adG m cG, .int .i64 secs, .slice adL n cL] 28)) g).alloc (.cells #[.pointer none, .slice none 0 0] 78)) g2) := by
    refine ⟨by (repeat' (first | (with_reducible exact Below.refl _ _) | (with_reducible refine belowGrU ?_ _) | (with_reducible refine belowAlloc ?_ _) | (with_reducible refine Below.setCell ?_ ?_ _) | (with_reducible refine Below.drew ?_) | (simp [go_sem]; done) | (simp [go_sem]; omega))), by rw [gr_size]; simp; omega, ?_, (bld_new _ _).grow (below_gr _ _)⟩
    rw [gr_heap _ _ (by rw [World.size_alloc, gr_size]; simp; omega), Below.heap_alloc _ _ _ (by rw [gr_size]; simp; omega), gr_heap _ _ (by simp)]
    exact World.alloc_heap_new w _
  generalize gr ((gr (w.alloc (.cells #[.slice adG m cG, .int .i64 secs, .slice adL n cL] 28)) g).alloc (.cells #[.pointer none, .slice none 0 0] 78)) g2 = W0 at hW0 ⊢
  generalize (gr (w.alloc (.cells #[.slice adG m cG, .int .i64 secs, .slice adL n cL] 28)) g).heap.size = b at hW0 ⊢
  clear cR cD
  refine (hW0.str _ (by rw [cat_size, show (⟨#[112, 111, 111, 108, 32]⟩ : ByteArray).size = 5 from rfl, List.length_nil]; omega)).mono ?_
  rintro e W1 ⟨rfl, hW1, _⟩
  have HT : Hid ([] ++ ((⟨#[112, 111, 111, 108, 32]⟩ : ByteArray) ++ D).data.toList = preG secs (gs.take 0)) := Lib.hid (by rw [cat_list, hDl]; simp [preG])
  generalize [] ++ ((⟨#[112, 111, 111, 108, 32]⟩ : ByteArray) ++ D).data.toList = T0 at hW1 HT
  clear hW0
  have q0 : W1.cell? ⟨w.heap.size, 0, none⟩ = some (.slice adG m cG) := hW1.cell 0
  go_wp2_with fail
  go_loopw [29] (fun i wr => ∃ (k : Nat) (T : List UInt8), k ≤ m ∧ i = .int .i64 (k : Int) ∧ Hid (T = preG secs (gs.take k)) ∧ WI w #[.slice adG m cG, .int .i64 secs, .slice adL n cL] b T wr) (fun i _ => m - (intOf i).toNat)
  case atStart => exact ⟨0, T0, by omega, rfl, HT, hW1⟩
  case round =>
    obtain ⟨k, T, hk, rfl, HTk, hW⟩ := hrel
    have hwz := hW.size
    have hbl := hW.lt
    by_cases hlt : k < m
    · have hmx := HM.out
      have hkl : k < gs.length := by omega
      have hGk := hG.keep (W' := wr) hW.bel.size (fun hl => hW.bel.block _ hl)
      obtain ⟨d0, d1⟩ := hGk.grp (k := k) hkl
      have had := hG.addr (by omega)
      subst had
      haveI : Old bG wr := ⟨hGk.lt (by omega)⟩
      have hix : ∀ W : World, (Instr.indexAt 23 (.slice (some ⟨bG, oG, none⟩) m cG) (.int .i64 (k : Int))).run Try.prog W = .ok (.pointer (some ⟨bG, oG + k * 2, none⟩)) W := fun W => by simp [go_sem, hlt]
      obtain ⟨hg1, hg2, hg3⟩ := hone (gs[k]) (List.getElem_mem hkl)
      have htake : gs.take (k + 1) = gs.take k ++ [gs[k]] := List.take_succ_eq_append_getElem hkl
      have hTl := preG_len secs hs1 hs2 (gs.take k) (fun g hg => (hone g (List.mem_of_mem_take hg)).2)
      rw [List.length_take, ← HTk.out] at hTl
      obtain ⟨⟨a, z⟩, hab⟩ : ∃ p, gs[k] = p := ⟨_, rfl⟩
      rw [hab] at d0 d1 hg1 hg2 hg3 htake
      simp only at d0 d1 hg1 hg2 hg3
      have hsn := preG_snoc secs (gs.take k) (a, z)
      rw [← htake, ← HTk.out] at hsn
      simp only at hsn
      have HSN := Lib.hid hsn
      have hTl2 : T.length ≤ 200 := by omega
      have cz := decimal_any z (by omega) (by omega)
      obtain ⟨Dz, hDz2, hDzl, hDzz⟩ := dec_out z (by omega) (by omega)
      rw [hDz2] at cz
      rw [← hDzl] at HSN
      have hA0 : WI w #[.slice (some ⟨bG, oG, none⟩) m cG, .int .i64 secs, .slice adL n cL] b T (wr.alloc (.cells #[.int .i64 a, .int .i64 z] 56)) := hW.grow (bel1' _ _)
      obtain ⟨ka, hka, hka2⟩ : ∃ ka : Nat, a = (ka : Int) ∧ ka < 2 := by rcases hg1 with rfl | rfl; exact ⟨0, rfl, by omega⟩; exact ⟨1, rfl, by omega⟩
      subst hka
      clear hab htake hsn hTl hmx hGk HTk hDz2 hDzl
      go_wp2_with fail
      refine (hA0.byte 32 32 rfl (by omega)).mono ?_
      rintro e W2 ⟨rfl, hA2, hw2⟩
      have hb7 := hw2.other (World.alloc_heap_new wr (.cells #[.int .i64 (ka : Int), .int .i64 z] 56)) (by omega) (by decide)
      obtain ⟨B7, hB7⟩ : ∃ B7, wr.heap.size = B7 := ⟨_, rfl⟩
      rw [hB7] at hb7 hwz ⊢
      obtain ⟨c, hc⟩ : ∃ c : UInt8, (if (ka : Int) = 0 then 109 else 112) = c := ⟨_, rfl⟩
      rw [hc] at HSN
      have hc127 : c.toNat ≤ 127 := by rw [← hc]; split <;> decide
      have hlet : ∀ W : World, (Instr.index 88 (.agg #[.int .i32 109, .int .i32 112]) (.int .i64 (ka : Int))).run Try.prog W = .ok (.int .i32 (c.toNat : Int)) W := fun W => by
        rw [run_letter W _ _ ka hka2, ← hc]
        rcases (show ka = 0 ∨ ka = 1 by omega) with rfl | rfl <;> rfl
      clear hc hw2 hA0
      have c70 : W2.cell? ⟨B7, 0, none⟩ = some (.int .i64 (ka : Int)) := by rw [cell_of_row W2 _ 0 _ _ _ hb7]; rfl
      have h7l := (Array.getElem?_eq_some_iff.1 hb7).1
      haveI : Old B7 W2 := ⟨h7l⟩
      go_wp2_with fail
      refine wp_region_gr_tail 4 (by kernel_rfl) (by kernel_rfl) ?_
      simp only [List.take_succ_cons, List.take_zero, List.drop_succ_cons, List.drop_zero]
      repeat (go_big_quiet_step (with_reducible exact letters_any.inClass _ _))
      refine wpQuiet_nil ?_
      rintro _ ⟨g5, rfl⟩
      go_wp2_with fail
      refine ((hA2.grow (below_gr _ g5)).rune c hc127 _ rfl (by simp; omega)).mono ?_
      rintro e W3 ⟨rfl, hA3, hw3⟩
      have hb73 := hw3.other ((gr_heap _ g5 h7l).trans hb7) (by omega) (by decide)
      have c71 : W3.cell? ⟨B7, 1, none⟩ = some (.int .i64 z) := by rw [cell_of_row W3 _ 1 _ _ _ hb73]; rfl
      clear hb7 c70 hA2 hw3 hlet
      have h7l3 := (Array.getElem?_eq_some_iff.1 hb73).1
      haveI : Old B7 W3 := ⟨h7l3⟩
      go_wp2_with (go_at_call 31; with_reducible refine (cz.at _).mono ?_; rintro e w' ⟨rfl, g6, rfl⟩)
      refine ((hA3.grow (below_gr _ g6)).str Dz (by simp; omega)).mono ?_
      rintro e W4 ⟨rfl, hA4, _⟩
      go_wp2_with fail
      go_roundw
      case rel => exact ⟨k + 1, _, by omega, by go_num, Lib.hid HSN.out.symm, hA4⟩
      case measure => simp [intOf]; omega
    · obtain rfl : k = m := by omega
      have hmx := HM.out
      have hT := HTk.out
      rw [List.take_of_length_le (by omega)] at hT
      have hTl := preG_len secs hs1 hs2 gs (fun g hg => (hone g hg).2)
      rw [← hT] at hTl
      clear hW1 HT HTk q0
      have HT : Hid (T ++ [10] = headB secs gs ++ ((xs.take 0).map lineB).flatten) := Lib.hid (by rw [hT]; simp [headB, preG])
      have hTl2 : (T ++ [10]).length ≤ 200 := by simp; omega
      clear hT hTl hmx
      go_wp2_with fail
      refine (hW.byte 10 10 rfl (by have := hTl2; simp at this; omega)).mono ?_
      rintro e W2 ⟨rfl, hW2, _⟩
      generalize T ++ [10] = T2 at HT hTl2 hW2
      have q2 : W2.cell? ⟨w.heap.size, 2, none⟩ = some (.slice adL n cL) := hW2.cell 2
      clear hW
      have hHl : (headB secs gs).length ≤ 200 := by have h1 := HT.out; rw [h1] at hTl2; simpa using hTl2
      clear hTl2
      go_wp2_with fail
      go_loopw [48] (fun i wr => ∃ (j : Nat) (T : List UInt8), j ≤ n ∧ i = .int .i64 (j : Int) ∧ Hid (T = headB secs gs ++ ((xs.take j).map lineB).flatten) ∧ WI w #[.slice adG k cG, .int .i64 secs, .slice adL n cL] b T wr) (fun i _ => n - (intOf i).toNat)
      case atStart => exact ⟨0, T2, by omega, rfl, HT, hW2⟩
      case round =>
        obtain ⟨j, T, hj, rfl, HTj, hW⟩ := hrel
        have hwz := hW.size
        have hbl := hW.lt
        by_cases hlt : j < n
        · have hnx := HN.out
          have hjl : j < xs.length := by omega
          have hLk := hL.keep (W' := wr) hW.bel.size (fun hl => hW.bel.block _ hl)
          obtain ⟨d0, d1, d2, d3, d4⟩ := hLk.act (k := j) hjl
          have had := hL.addr (by omega)
          subst had
          haveI : Old bL wr := ⟨hLk.lt (by omega)⟩
          have hix : ∀ W : World, (Instr.indexAt 26 (.slice (some ⟨bL, oL, none⟩) n cL) (.int .i64 (j : Int))).run Try.prog W = .ok (.pointer (some ⟨bL, oL + j * 5, none⟩)) W := fun W => by simp [go_sem, hlt]
          have hox := hact (xs[j]) (List.getElem_mem hjl)
          have htake : xs.take (j + 1) = xs.take j ++ [xs[j]] := List.take_succ_eq_append_getElem hjl
          have hTl := linesB_len (xs.take j) (fun x hx => hact x (List.mem_of_mem_take hx))
          have hTl2 : T.length ≤ 200 + 100 * 1000 := by rw [HTj.out, List.length_append]; rw [List.length_take] at hTl; have : min j xs.length * 100 ≤ 1000 * 100 := Nat.mul_le_mul_right _ (by omega); omega
          obtain ⟨x, hx⟩ : ∃ x, xs[j] = x := ⟨_, rfl⟩
          rw [hx] at d0 d1 d2 d3 d4 hox htake
          have HSN : Hid (headB secs gs ++ ((xs.take (j + 1)).map lineB).flatten = T ++ x.word.data.toList ++ numsB x ((wordsS x.word).getD 0) ++ [10]) := Lib.hid (by rw [htake, List.map_append, List.flatten_append, HTj.out]; simp [lineB, numsB])
          have cw := Words_any x.word
          rw [wordsV] at cw
          obtain ⟨K, hK⟩ : ∃ K, (wordsS x.word).getD 0 = K := ⟨_, rfl⟩
          have hK4 := hox.2.1
          have hw8 := hox.1
          rw [hK] at cw HSN hK4
          have HX := Lib.hid hox
          obtain ⟨y0, y1, y2, y3, y4⟩ := x
          simp only at d0 d1 d2 d3 d4 cw HSN hw8
          have hA0 : WI w #[.slice adG k cG, .int .i64 secs, .slice (some ⟨bL, oL, none⟩) n cL] b T (wr.alloc (.cells #[.string y0, .int .i64 y1, .int .i64 y2, .int .i64 y3, .int .i64 y4] 40)) := hW.grow (bel1' _ _)
          have h9 := World.alloc_heap_new wr (.cells #[.string y0, .int .i64 y1, .int .i64 y2, .int .i64 y3, .int .i64 y4] 40)
          clear hx htake hTl hnx hLk HTj hK hox
          go_wp2_with fail
          refine (hA0.str y0 (by omega)).mono ?_
          rintro e W3 ⟨rfl, hA3, hw3⟩
          have hb9 := hw3.other h9 (by omega) (by decide)
          obtain ⟨B9, hB9⟩ : ∃ B9, wr.heap.size = B9 := ⟨_, rfl⟩
          rw [hB9] at hb9 hwz ⊢
          have h9l := (Array.getElem?_eq_some_iff.1 hb9).1
          haveI : Old B9 W3 := ⟨h9l⟩
          have c90 : W3.cell? ⟨B9, 0, none⟩ = some (.string y0) := by rw [cell_of_row W3 _ 0 _ _ _ hb9]; rfl
          clear h9 hw3 hA0 hW hB9
          have hsl : ∀ W : World, (Instr.sliceAt 38 (.pointer (some ⟨B9, 1, none⟩)) none (some (.int .i64 (K : Int))) none).run Try.prog W = .ok (.slice (some ⟨B9, 1, none⟩) K 4) W := fun W => by
            have h1 : (K : Int) ≤ 4 := by omega
            simp [Instr.sliceAt, Instr.sureAddr, run_underlying Try.underlying38, Instr.sliceBounds, run_sliceBound, h1, add_at]
          go_wp2_with (go_at_call 11; with_reducible refine (cw.at _).mono ?_; rintro e w' ⟨rfl, g7, rfl⟩)
          have hA4 := hA3.grow (below_gr _ g7)
          have hb94 := (gr_heap _ g7 h9l).trans hb9
          have hTl3 : (T ++ y0.data.toList).length ≤ 200 + 100 * 1000 + 8 := by rw [List.length_append, size_list]; omega
          have HTi : Hid (T ++ y0.data.toList = T ++ y0.data.toList ++ numsB ⟨y0, y1, y2, y3, y4⟩ 0) := Lib.hid (by simp [numsB])
          obtain ⟨T3, hT3⟩ : ∃ T3, T ++ y0.data.toList = T3 := ⟨_, rfl⟩
          rw [hT3] at HTi hA4 HSN hTl3
          clear hA3 hb9 c90 cw hT3
          generalize gr W3 g7 = W5 at hA4 hb94 ⊢
          go_loopw [65] (fun i wr => ∃ (p : Nat) (T : List UInt8), p ≤ K ∧ i = .int .i64 (p : Int) ∧ Hid (T = T3 ++ numsB ⟨y0, y1, y2, y3, y4⟩ p) ∧ WI w #[.slice adG k cG, .int .i64 secs, .slice (some ⟨bL, oL, none⟩) n cL] b T wr ∧ wr.heap[B9]? = some (.cells #[.string y0, .int .i64 y1, .int .i64 y2, .int .i64 y3, .int .i64 y4] 40 (0, 0))) (fun i _ => K - (intOf i).toNat)
          case atStart => exact ⟨0, T3, by omega, rfl, HTi, hA4, hb94⟩
          case round =>
            obtain ⟨p, T4, hp, rfl, HTp, hWp, hbp⟩ := hrel
            have hwz4 := hWp.size
            have h9l4 := (Array.getElem?_eq_some_iff.1 hbp).1
            haveI : Old B9 wr := ⟨h9l4⟩
            by_cases hltp : p < K
            · have hox := HX.out
              have hT4 : T4.length ≤ 200 + 100 * 1000 + 8 + 80 := by
                have h1 := numsB_len _ hox p (by omega)
                rw [HTp.out, List.length_append]
                omega
              obtain ⟨hn1, hn2⟩ := hox.2.2 p (by omega)
              obtain ⟨z, hz⟩ : ∃ z, (⟨y0, y1, y2, y3, y4⟩ : Act5).nth p = z := ⟨_, rfl⟩
              have hcp : wr.cell? ⟨B9, 1 + p, none⟩ = some (.int .i64 z) := by
                rw [cell_of_row wr _ _ _ _ _ hbp, ← hz]
                rcases (show p = 0 ∨ p = 1 ∨ p = 2 ∨ p = 3 by omega) with rfl | rfl | rfl | rfl <;> rfl
              have HS2 : Hid (T3 ++ numsB ⟨y0, y1, y2, y3, y4⟩ (p + 1) = T4 ++ (32 :: decI z)) := Lib.hid (by rw [numsB_succ, HTp.out, hz, List.append_assoc])
              rw [hz] at hn1 hn2
              have cz := decimal_any z (by omega) (by omega)
              obtain ⟨Dz, hDz2, hDzl, hDzz⟩ := dec_out z (by omega) (by omega)
              rw [hDz2] at cz
              rw [← hDzl] at HS2
              have hixp : ∀ W : World, (Instr.indexAt 90 (.slice (some ⟨B9, 1, none⟩) K 4) (.int .i64 (p : Int))).run Try.prog W = .ok (.pointer (some ⟨B9, 1 + p, none⟩)) W := fun W => by simp [go_sem, hltp]
              clear hox hz hDz2 hDzl HTp
              go_wp2_with (go_at_call 31; with_reducible refine (cz.at _).mono ?_; rintro e w' ⟨rfl, g6, rfl⟩)
              have hA6 := hWp.grow (below_gr _ g6)
              have hb6 := (gr_heap _ g6 h9l4).trans hbp
              have hcat : ((⟨#[32]⟩ : ByteArray) ++ Dz).data.toList = 32 :: Dz.data.toList := by rw [cat_list]; rfl
              refine (hA6.str _ (by rw [cat_size, show (⟨#[32]⟩ : ByteArray).size = 1 from rfl]; omega)).mono ?_
              rintro e W7 ⟨rfl, hA7, hw7⟩
              have hb7 := hw7.other hb6 (by omega) (by decide)
              rw [hcat] at hA7
              clear hA6 hb6 hw7 hWp hbp
              go_wp2_with fail
              go_roundw
              case rel => exact ⟨p + 1, _, by omega, by go_num, Lib.hid HS2.out.symm, hA7, hb7⟩
              case measure => simp [intOf]; omega
            · obtain rfl : p = K := by omega
              have hT4 : T4.length ≤ 200 + 100 * 1000 + 8 + 80 := by
                have h1 := numsB_len _ HX.out p hK4
                rw [HTp.out, List.length_append]
                omega
              have HS3 : Hid (headB secs gs ++ ((xs.take (j + 1)).map lineB).flatten = T4 ++ [10]) := Lib.hid (by rw [HSN.out, HTp.out])
              clear HTp HSN hA4 hb94
              go_wp2_with fail
              refine (hWp.byte 10 10 rfl (by omega)).mono ?_
              rintro e W8 ⟨rfl, hA8, _⟩
              clear hWp
              go_wp2_with fail
              go_roundw
              case rel => exact ⟨j + 1, _, by omega, by go_num, Lib.hid HS3.out.symm, hA8⟩
              case measure => simp [intOf]; omega
        · obtain rfl : j = n := by omega
          have hnx := HN.out
          have hT := HTj.out
          rw [List.take_of_length_le (by omega)] at hT
          have hfin : T = writeB gs secs xs := hT
          have HF := Lib.hid hfin
          have hbB := hW.bld.isF (B := w.heap.size) (by omega) (by omega)
          have cS := Try.Builder_String_any_k w.heap.size b T wr hbB hW.bel.size
          have hbel := hW.bel
          clear hT hfin hnx HTj hW hW2 HT hL hG q2 hbB
          go_wp2_with (go_at_call 30; refine cS.mono ?_; rintro e W9 ⟨rfl, _, hb9, _⟩)
          go_ret2
          exact Ret.mk (by rw [← HF.out]; rfl) (hbel.trans hb9)

end Go.Proofs.Ytajionjffijffaa

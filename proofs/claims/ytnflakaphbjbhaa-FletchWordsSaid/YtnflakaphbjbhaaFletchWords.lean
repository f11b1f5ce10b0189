/-
  A text with one word changed has another sum; so has one with two different words changed to each other's. For every text, two places and a number.
-/
import Derived.Test.YtnflakaphbjbhaaWordsPlain
import Derived.Laws.IdiomCopy
import Derived.Laws.IdiomStrings
import Derived.Lib.SlBytesRow
namespace Go.Proofs.Ytnflakaphbjbhaa
open Go.RowKit Go.Sort Go.ChangeShapes Go.WideShapes Go.ChangeAt Go.Joins Go.ChangeMaps

/-! ### bytes in memory -/
structure Row (V : World) (b : Nat) (l : List UInt8) : Prop where
  old : Old b V
  cell : ∀ i, i < l.length → V.cell? ⟨b, i, none⟩ = some (.int .u8 ((bt l i).toNat : Int))
  free : ∀ i, i < l.length → V.frozen? ⟨b, i, none⟩ = false
theorem Row.gr {V : World} {b : Nat} {l : List UInt8} (h : Row V b l) (g : Gr) : Row (gr V g) b l := by
  haveI := h.old
  exact ⟨inferInstance, fun i hi => (cell_gr ..).trans (h.cell i hi), fun i hi => (frozen_gr ..).trans (h.free i hi)⟩
theorem Row.alloc {V : World} {b : Nat} {l : List UInt8} (h : Row V b l) (o : Obj) : Row (V.alloc o) b l := by
  haveI := h.old
  exact ⟨inferInstance, fun i hi => (cell_past ..).trans (h.cell i hi), fun i hi => (frozen_past ..).trans (h.free i hi)⟩
theorem Row.set {V : World} {b : Nat} {l : List UInt8} (h : Row V b l) (i : Nat) (v : UInt8) (hi : i < l.length) : Row (V.setCell ⟨b, i, none⟩ (.int .u8 (v.toNat : Int))) b (l.set i v) := by
  haveI := h.old
  refine ⟨inferInstance, fun j hj => ?_, fun j hj => ?_⟩
  · rw [List.length_set] at hj
    rw [bt_set _ _ _ _ hi]
    by_cases e : j = i
    · subst e
      rw [if_pos rfl]
      exact World.cell?_setCell_same _ _ _ (h.cell j hj)
    · rw [if_neg e]
      exact (World.cell?_setCell_other _ _ _ _ (fun h' => e (by injection h' with _ h2; exact h2.symm))).trans (h.cell j hj)
  · rw [List.length_set] at hj
    rw [World.frozen?_setCell]
    exact h.free j hj
theorem Row.other {V : World} {b : Nat} {l : List UInt8} (h : Row V b l) (c i : Nat) (v : Value) (hc : c ≠ b) : Row (V.setCell ⟨c, i, none⟩ v) b l := by
  haveI := h.old
  exact ⟨inferInstance, fun j hj => (World.cell?_setCell_other _ _ _ _ (fun h' => hc (by injection h'))).trans (h.cell j hj), fun j hj => (World.frozen?_setCell ..).trans (h.free j hj)⟩

/-- '[]byte(s)' -/
theorem conv_in (s : ByteArray) : ∃ (C : World → Nat) (V : World → World), (∀ W, (convert 9 25 (.string s)).run Try.prog W = .ok (.slice (some ⟨W.heap.size, 0, none⟩) s.size (C W)) (V W)) ∧
    ∀ W, s.size ≤ C W ∧ Row (V W) W.heap.size s.data.toList ∧ (V W).heap.size = W.heap.size + 1 ∧ Below W.heap.size W (V W) := by
  refine ⟨_, _, fun W => run_bytes_of_string W _ _ _ s Try.underlying9 Try.underlying25 Try.underlying5, fun W => ⟨?_, ⟨?_, fun i hi => ?_, fun i hi => ?_⟩, ?_, ?_⟩⟩
  · exact grownCap_ge ..
  · exact ⟨by simp⟩
  · rw [size_list] at hi
    refine (World.cell?_alloc_mark W.drew _ _ _ i).trans ?_
    have hb : bt s.data.toList i = s.data[i]'hi := by rw [bt_get _ _ (by rw [size_list]; exact hi)]; simp
    rw [hb, bytesRow, Array.getElem?_append_left (by rw [Array.size_map]; exact hi), Array.getElem?_map, Array.getElem?_eq_getElem hi]
    rfl
  · rw [size_list] at hi
    refine (World.frozen?_alloc_mark W.drew _ _ _ _ i).trans ?_
    have hz : s.size ≤ (bytesRow s (grownCap W s.size 0 5)).size := by
      unfold bytesRow
      rw [Array.size_append, Array.size_map]
      exact Nat.le_add_right _ _
    rw [decide_eq_false (by omega)]
    rfl
  · simp
  · exact belowAlloc (Below.drew (Below.refl _ _)) _

/-- 'string(b[x:x+n])' -/
theorem conv_out {V : World} {b : Nat} {l : List UInt8} (h : Row V b l) (x n c : Nat) (hx : x + n ≤ l.length) :
    (convert 25 9 (.slice (some ⟨b, x, none⟩) n c)).run Try.prog V = .ok (.string (ofL ((l.drop x).take n))) V := by
  have hlen : ((l.drop x).take n).length = n := by rw [List.length_take, List.length_drop]; omega
  have r := run_convert_bytes_back (P := Try.prog) V 25 9 5 ⟨b, x, none⟩ c ((l.drop x).take n) Try.underlying25 Try.underlying5 Try.underlying9 (fun j hj => by
    have e : (⟨b, x, none⟩ : Addr).add j = ⟨b, x + j, none⟩ := by unfold Addr.add; split <;> simp_all
    rw [e, h.cell (x + j) (by omega), bt_get _ _ (by omega)]
    simp)
  rw [hlen] at r
  exact r

/-- 'copy(c[x:x+4], b[y:y+4])' -/
theorem copy_four {V : World} {b c : Nat} {l m : List UInt8} (hb : Row V b l) (hc : Row V c m) (x y p q : Nat) (hx : x + 4 ≤ m.length) (hy : y + 4 ≤ l.length) :
    (Builtin.copy_ #[25, 25] 3 #[.slice (some ⟨c, x, none⟩) 4 p, .slice (some ⟨b, y, none⟩) 4 q]).run Try.prog V = .ok (.int .i64 4)
      ((((V.setCell ⟨c, x, none⟩ (.int .u8 ((bt l y).toNat : Int))).setCell ⟨c, x + 1, none⟩ (.int .u8 ((bt l (y + 1)).toNat : Int))).setCell ⟨c, x + 2, none⟩ (.int .u8 ((bt l (y + 2)).toNat : Int))).setCell ⟨c, x + 3, none⟩ (.int .u8 ((bt l (y + 3)).toNat : Int))) := by
  have r := run_copy_cells (P := Try.prog) V 25 25 3 5 c x 4 p ⟨b, y, none⟩ 4 q
    [.int .u8 ((bt l y).toNat : Int), .int .u8 ((bt l (y + 1)).toNat : Int), .int .u8 ((bt l (y + 2)).toNat : Int), .int .u8 ((bt l (y + 3)).toNat : Int)]
    Try.underlying25 (by kernel_rfl) rfl (fun j v hj => by
      have e : (⟨b, y, none⟩ : Addr).add j = ⟨b, y + j, none⟩ := by unfold Addr.add; split <;> simp_all
      rw [e]
      have hj4 : j < 4 := by
        have := (List.getElem?_eq_some_iff.1 hj).1
        simpa using this
      rw [hb.cell (y + j) (by omega)]
      rcases (show j = 0 ∨ j = 1 ∨ j = 2 ∨ j = 3 by omega) with rfl | rfl | rfl | rfl <;> simpa using hj)
    (fun j hj => by rw [hc.cell (x + j) (by simp at hj; omega)]; rfl) (fun j hj => hc.free (x + j) (by simp at hj; omega)) (fun v hv => by
      simp at hv
      rcases hv with rfl | rfl | rfl | rfl <;> rfl)
  exact r

/-- what is known between two of the law's steps: the bytes, the sum that was -/
structure St (w : World) (B D : Nat) (l : List UInt8) (c : S4) (V : World) : Prop where
  row : Row V B l
  old : Old D V
  ne : B ≠ D
  wB : w.heap.size ≤ B
  wD : w.heap.size ≤ D
  was : V.cell? ⟨D, 0, none⟩ = some (.int .u64 (c.a : Int)) ∧ V.cell? ⟨D, 1, none⟩ = some (.int .u64 (c.b : Int)) ∧ V.cell? ⟨D, 2, none⟩ = some (.int .u64 (c.c : Int)) ∧ V.cell? ⟨D, 3, none⟩ = some (.int .u64 (c.d : Int))
  below : Below w.heap.size w V
theorem St.gr {w : World} {B D : Nat} {l : List UInt8} {c : S4} {V : World} (h : St w B D l c V) (g : Gr) : St w B D l c (gr V g) := by
  haveI := h.old
  haveI : Upto w.heap.size V := ⟨h.below.size⟩
  exact ⟨h.row.gr g, inferInstance, h.ne, h.wB, h.wD, ⟨(cell_gr ..).trans h.was.1, (cell_gr ..).trans h.was.2.1, (cell_gr ..).trans h.was.2.2.1, (cell_gr ..).trans h.was.2.2.2⟩, belowGrU h.below _⟩
theorem St.set {w : World} {B D : Nat} {l : List UInt8} {c : S4} {V : World} (h : St w B D l c V) (i : Nat) (v : UInt8) (hi : i < l.length) : St w B D (l.set i v) c (V.setCell ⟨B, i, none⟩ (.int .u8 (v.toNat : Int))) := by
  haveI := h.old
  have ho : ∀ j, (V.setCell ⟨B, i, none⟩ (.int .u8 (v.toNat : Int))).cell? ⟨D, j, none⟩ = V.cell? ⟨D, j, none⟩ := fun j => World.cell?_setCell_other _ _ _ _ (fun h' => h.ne (by injection h'))
  exact ⟨h.row.set i v hi, inferInstance, h.ne, h.wB, h.wD, ⟨(ho 0).trans h.was.1, (ho 1).trans h.was.2.1, (ho 2).trans h.was.2.2.1, (ho 3).trans h.was.2.2.2⟩, Below.setCell h.below h.wB _⟩
theorem St.other {w : World} {B D : Nat} {l : List UInt8} {c : S4} {V : World} (h : St w B D l c V) (e i : Nat) (v : Value) (hB : e ≠ B) (hD : e ≠ D) (he : w.heap.size ≤ e) : St w B D l c (V.setCell ⟨e, i, none⟩ v) := by
  haveI := h.old
  have ho : ∀ j, (V.setCell ⟨e, i, none⟩ v).cell? ⟨D, j, none⟩ = V.cell? ⟨D, j, none⟩ := fun j => World.cell?_setCell_other _ _ _ _ (fun h' => hD (by injection h'))
  exact ⟨h.row.other e i v hB, inferInstance, h.ne, h.wB, h.wD, ⟨(ho 0).trans h.was.1, (ho 1).trans h.was.2.1, (ho 2).trans h.was.2.2.1, (ho 3).trans h.was.2.2.2⟩, Below.setCell h.below he _⟩
/-- .. behind what only lays new blocks -/
theorem St.past {w : World} {B D : Nat} {l : List UInt8} {c : S4} {V V' : World} (h : St w B D l c V) (hb : Below V.heap.size V V') : St w B D l c V' := by
  obtain ⟨g, rfl⟩ := gr_of_below hb
  exact h.gr g
theorem Row.past {b : Nat} {l : List UInt8} {V V' : World} (h : Row V b l) (hb : Below V.heap.size V V') : Row V' b l := by
  obtain ⟨g, rfl⟩ := gr_of_below hb
  exact h.gr g

/-- 'b[4a:4a+4]' -/
theorem slice_four (W : World) (B n K a : Nat) (h : 4 * a + 4 ≤ K) : (Instr.slice 25 (.slice (some ⟨B, 0, none⟩) n K) (some (.int .i64 (4 * (a : Int)))) (some (.int .i64 (4 * (a : Int) + 4))) none).run Try.prog W = .ok (.slice (some ⟨B, 4 * a, none⟩) 4 (K - 4 * a)) W := by
  have hi : ∃ i, Try.prog.info? 5 = some i := Option.isSome_iff_exists.1 (by kernel_rfl)
  obtain ⟨i, hi⟩ := hi
  have hz : ∀ w, (Go.sizeOf 5).run Try.prog w = .ok 1 w := fun w => by
    have hc : Try.prog.cellsOf 5 = 1 := by kernel_rfl
    rw [run_sizeOf w hi, hc]
  have r := Lib.run_slice_window (P := Try.prog) W 25 5 Try.underlying25 hz B 0 n K (4 * a) (4 * a + 4) (by omega) h
  have e1 : ((4 * a : Nat) : Int) = 4 * (a : Int) := by omega
  have e2 : ((4 * a + 4 : Nat) : Int) = 4 * (a : Int) + 4 := by omega
  rw [e1, e2, Nat.zero_add, Nat.add_sub_cancel_left] at r
  exact r

/-- the address of b[4a+m] -/
theorem index_byte (W : World) (B n K a m : Nat) (h : 4 * a + m < n) : (Instr.indexAt 25 (.slice (some ⟨B, 0, none⟩) n K) (.int .i64 (4 * (a : Int) + (m : Int)))).run Try.prog W = .ok (.pointer (some ⟨B, 4 * a + m, none⟩)) W := by
  have h1 : 0 ≤ 4 * (a : Int) + (m : Int) ∧ 4 * (a : Int) + (m : Int) < (n : Int) := by omega
  have h2 : (4 * (a : Int) + (m : Int)).toNat = 4 * a + m := by omega
  have e : (⟨B, 0, none⟩ : Addr).add (4 * a + m) = ⟨B, 4 * a + m, none⟩ := by unfold Addr.add; split <;> simp_all
  simp [Instr.indexAt, asIntOf, run_underlying Try.underlying25, h1, h2, e]
theorem bits_xor_u8 (x y : UInt8) : bits .xor .u8 (x.toNat : Int) (y.toNat : Int) = ((x ^^^ y).toNat : Int) := by
  have hx := x.toNat_lt
  have hy := y.toNat_lt
  have h1 : (BitVec.ofInt 8 (x.toNat : Int)).toNat = x.toNat := by
    rw [BitVec.ofInt_natCast, BitVec.toNat_ofNat]; exact Nat.mod_eq_of_lt (by omega)
  have h2 : (BitVec.ofInt 8 (y.toNat : Int)).toNat = y.toNat := by
    rw [BitVec.ofInt_natCast, BitVec.toNat_ofNat]; exact Nat.mod_eq_of_lt (by omega)
  have h3 : x.toNat ^^^ y.toNat < 2 ^ 8 := Nat.xor_lt_two_pow (n := 8) (by omega) (by omega)
  show IntKind.u8.wrap ((BitVec.ofInt 8 (x.toNat : Int) ^^^ BitVec.ofInt 8 (y.toNat : Int)).toNat : Int) = _
  rw [BitVec.toNat_xor, h1, h2, UInt8.toNat_xor]
  simp [IntKind.wrap, IntKind.signed, IntKind.bits]
  omega
theorem byteOf_int (v m : Nat) : (v : Int) / 2 ^ (8 * m) % 256 = ((byteOf v m).toNat : Int) := by
  have hp : (256 : Nat) ^ m = 2 ^ (8 * m) := by rw [show (256 : Nat) = 2 ^ 8 from rfl, ← Nat.pow_mul]
  unfold byteOf
  rw [UInt8.toNat_ofNat', hp]
  simp
namespace FletchWords

set_option maxRecDepth 20000 in
set_option maxHeartbeats 2000000 in
theorem walk (s : ByteArray) (hs : s.size ≤ 9223372036854775807) (i : Nat) (hi : i < 65536) (k : Nat) (hk : k < 65536) (v : Nat) (hv : v < 4294967296) :
    Pure Try.prog 3 #[.string s, .int .u16 (i : Int), .int .u16 (k : Int), .int .u32 (v : Int)] (.bool true) := by
  intro w
  by_cases hl : 4 ≤ s.size ∧ s.size ≤ 3000
  · obtain ⟨hl4, hl3⟩ := hl
    have cP := Pad_any s (by omega)
    have c1 := Sum4_any s (by omega)
    rw [← sum4_pad s] at c1
    have hp4 := pad4_mod s
    have hp3 : (pad4 s).size < 4000 := by rw [pad4_size]; have := padN_lt s; omega
    have hp1 : 4 ≤ (pad4 s).size := by rw [pad4_size]; omega
    obtain ⟨p, hp⟩ : ∃ p, pad4 s = p := ⟨_, rfl⟩
    rw [hp] at cP c1 hp4 hp3 hp1
    clear hp
    obtain ⟨l, hpl⟩ : ∃ l, p.data.toList = l := ⟨_, rfl⟩
    have hll : l.length = p.size := by rw [← hpl, size_list]
    obtain ⟨C, V, hci, hcp⟩ := conv_in p
    rw [hpl] at hcp
    have HP : Hid (p = ofL l) := Lib.hid (by rw [← hpl, ofL_self])
    have HC := Lib.hid hcp
    have hcs := fun W => (hcp W).2.2.1
    clear hcp hpl
    obtain ⟨⟨s0, s1, s2, s3⟩, hS⟩ : ∃ z, sum4 p = z := ⟨_, rfl⟩
    have HS : Hid (sum4 (ofL l) = ⟨s0, s1, s2, s3⟩) := Lib.hid (by rw [← HP.out, hS])
    rw [hS] at c1
    clear hS
    simp only [S4.v, S4.cs] at c1
    obtain ⟨a, ha⟩ : ∃ a, i % (p.size / 4) = a := ⟨_, rfl⟩
    obtain ⟨b, hb⟩ : ∃ b, k % (p.size / 4) = b := ⟨_, rfl⟩
    have ha4 : 4 * a + 4 ≤ p.size := by have : a < p.size / 4 := by rw [← ha]; exact Nat.mod_lt _ (by omega)
                                        omega
    have hb4 : 4 * b + 4 ≤ p.size := by have : b < p.size / 4 := by rw [← hb]; exact Nat.mod_lt _ (by omega)
                                        omega
    have hxa : (i : Int) % ((p.size : Int) / 4) = (a : Int) := by rw [← ha]; simp
    have hxb : (k : Int) % ((p.size : Int) / 4) = (b : Int) := by rw [← hb]; simp
    clear ha hb
    have hn0 : ¬ ((p.size : Int) / 4 = 0) := by omega
    go_enter Try.func3, Try.ntmps3
    go_wp2_with (first | (go_at_call 8; with_reducible refine (awake_any.at _).mono ?_; rintro e w' ⟨rfl, g, rfl⟩) | (go_at_call 9; with_reducible refine (cP.at _).mono ?_; rintro e w' ⟨rfl, g0, rfl⟩) | (go_at_call 10; with_reducible refine (c1.at _).mono ?_; rintro e w' ⟨rfl, g1, rfl⟩))
    have hcW := HC.out (gr w (g.seq g0))
    have hwB : w.heap.size ≤ (gr w (g.seq g0)).heap.size := size_le_gr _ _
    have hbW := below_gr w (g.seq g0)
    generalize hB : (gr w (g.seq g0)).heap.size = B at hcW hwB ⊢
    generalize C (gr w (g.seq g0)) = K at hcW ⊢
    generalize V (gr w (g.seq g0)) = VV at hcW ⊢
    generalize hD : (gr VV g1).heap.size = D
    generalize hV1 : (gr VV g1).alloc _ = V1
    have hBD : B < D := by rw [← hD, gr_size, hcW.2.2.1]; omega
    have st : St w B D l ⟨s0, s1, s2, s3⟩ V1 := by
      haveI : SizeIs (gr VV g1) D := ⟨hD⟩
      have hbV : Below w.heap.size w VV := hbW.trans (hcW.2.2.2.mono hwB)
      haveI : Upto w.heap.size VV := ⟨hbV.size⟩
      subst hV1
      exact ⟨(hcW.2.1.gr g1).alloc _, inferInstance, by omega, hwB, by omega, by simp [go_sem], belowAlloc (belowGrU hbV _) _⟩
    have hK := hcW.1
    clear hcW hbW hB hD hV1 VV
    refine wp_region_gr (by kernel_rfl) (by kernel_rfl) ?_
    repeat (go_big_quiet_step (fail))
    refine wpQuiet_nil ?_
    rintro _ ⟨g2, rfl⟩
    simp only [hxa, hxb]
    go_wp2_with fail
    have sla : ∀ W : World, (Instr.slice 25 (.slice (some ⟨B, 0, none⟩) p.size K) (some (.int .i64 (4 * (a : Int)))) (some (.int .i64 (4 * (a : Int) + 4))) none).run Try.prog W = .ok (.slice (some ⟨B, 4 * a, none⟩) 4 (K - 4 * a)) W := fun W => slice_four W B p.size K a (by omega)
    have slb : ∀ W : World, (Instr.slice 25 (.slice (some ⟨B, 0, none⟩) p.size K) (some (.int .i64 (4 * (b : Int)))) (some (.int .i64 (4 * (b : Int) + 4))) none).run Try.prog W = .ok (.slice (some ⟨B, 4 * b, none⟩) 4 (K - 4 * b)) W := fun W => slice_four W B p.size K b (by omega)
    have coa := fun G : Gr => conv_out (st.gr G).row (4 * a) 4 (K - 4 * a) (by omega)
    have cob := fun G : Gr => conv_out (st.gr G).row (4 * b) 4 (K - 4 * b) (by omega)
    obtain ⟨XA, hXA⟩ : ∃ X, ofL ((l.drop (4 * a)).take 4) = X := ⟨_, rfl⟩
    obtain ⟨XB, hXB⟩ : ∃ X, ofL ((l.drop (4 * b)).take 4) = X := ⟨_, rfl⟩
    simp only [hXA] at coa
    simp only [hXB] at cob
    have hXX : (XA.toList == XB.toList) = true ∨ (XA.toList == XB.toList) = false ∧ (l.drop (4 * a)).take 4 ≠ (l.drop (4 * b)).take 4 := by
      cases e : XA.toList == XB.toList
      · refine .inr ⟨rfl, fun h => ?_⟩
        rw [← hXA, ← hXB, h] at e
        simp at e
      · exact .inl rfl
    clear hXA hXB
    rcases hXX with hXX | ⟨hXX, hne⟩
    · refine wp_region_gr2 (by kernel_rfl) (by kernel_rfl) ?_
      repeat (go_big_quiet_step (fail))
      refine wpQuiet_nil ?_
      rintro _ ⟨g3, rfl⟩
      go_wp2_with fail
      have st2 := st.gr g3
      generalize gr V1 g3 = V2 at st2 ⊢
      clear st coa cob sla slb hXX
      go_loopw [15] (fun j wr => ∃ m : Nat, m ≤ 4 ∧ j = .int .i64 m ∧ St w B D (xorTo l (4 * a) v m) ⟨s0, s1, s2, s3⟩ wr)
        (fun j _ => 4 - (intOf j).toNat)
      case atStart => exact ⟨0, by omega, rfl, st2⟩
      case round =>
        obtain ⟨m, hm, rfl, st3⟩ := hrel
        by_cases hlt : m < 4
        · have hin : 4 * a + m < (xorTo l (4 * a) v m).length := by rw [xorTo_len]; omega
          have hce := st3.row.cell _ hin
          have hfr := st3.row.free _ hin
          haveI := st3.row.old
          have hix : ∀ W : World, (Instr.indexAt 25 (.slice (some ⟨B, 0, none⟩) p.size K) (.int .i64 (4 * (a : Int) + (m : Int)))).run Try.prog W = .ok (.pointer (some ⟨B, 4 * a + m, none⟩)) W := fun W => index_byte W B p.size K a m (by omega)
          have hnx := st3.set _ (bt (xorTo l (4 * a) v m) (4 * a + m) ^^^ byteOf v m) hin
          have HN := Lib.hid hnx
          clear hnx
          obtain ⟨X, hX⟩ : ∃ X : Nat, (bt (xorTo l (4 * a) v m) (4 * a + m)).toNat = X := ⟨_, rfl⟩
          rw [hX] at hce
          go_wp2_with fail
          refine wp_region_gr_tail 12 (by kernel_rfl) (by kernel_rfl) ?_
          simp only [List.take_succ_cons, List.take_zero, List.drop_succ_cons, List.drop_zero]
          repeat (go_big_quiet_step (fail))
          refine wpQuiet_nil ?_
          rintro _ ⟨g4, rfl⟩
          go_wp2_with fail
          have hxo : bits .xor .u8 (X : Int) ((v : Int) / 2 ^ (8 * m) % 256) = ((bt (xorTo l (4 * a) v m) (4 * a + m) ^^^ byteOf v m).toNat : Int) := by
            rw [← hX, byteOf_int, bits_xor_u8]
          rw [hxo]
          exact ⟨⟨m + 1, hlt, by go_num, HN.out.gr g4⟩, by simp [intOf]; omega⟩
        · obtain rfl : m = 4 := by omega
          have co := fun G : Gr => conv_out (st3.gr G).row 0 p.size K (by rw [xorTo_len]; omega)
          have hwh : ofL (((xorTo l (4 * a) v 4).drop 0).take p.size) = ofL (xorTo l (4 * a) v 4) := by
            rw [List.drop_zero, List.take_of_length_le (by rw [xorTo_len]; omega)]
          simp only [hwh] at co
          have c2 := Sum4_any (ofL (xorTo l (4 * a) v 4)) (by rw [ofL_size, xorTo_len]; omega)
          have hx := sum4_xor l (by omega) a v (by omega) hv
          rw [HS.out] at hx
          obtain ⟨⟨z0, z1, z2, z3⟩, hZ⟩ : ∃ z, sum4 (ofL (xorTo l (4 * a) v 4)) = z := ⟨_, rfl⟩
          rw [hZ] at c2 hx
          have q := fun W : World => run_eql_s4 W z0 z1 z2 z3 s0 s1 s2 s3
          have hbe : decide ((⟨z0, z1, z2, z3⟩ : S4) = ⟨s0, s1, s2, s3⟩) = ((v : Int) == 0) := by
            rw [decide_eq_decide.2 hx]
            by_cases e : v = 0
            · subst e; rfl
            · simp [e]
          rw [hbe] at q
          have hb3 := st3.below
          haveI : Upto w.heap.size wr := ⟨hb3.size⟩
          haveI := st3.old
          obtain ⟨hw0, hw1, hw2, hw3⟩ := st3.was
          simp only at hw0 hw1 hw2 hw3
          clear hZ hwh hbe hx
          simp only [S4.v, S4.cs] at c2
          generalize ofL (xorTo l (4 * a) v 4) = Q at *
          obtain ⟨β, hβ⟩ : ∃ β : Bool, ((v : Int) == 0) = β := ⟨_, rfl⟩
          rw [hβ] at q
          go_wp2_with fail
          refine wp_region_gr (by kernel_rfl) (by kernel_rfl) ?_
          repeat (first | go_big_quiet_step (first | (with_reducible exact c2.inClass _ _)) | simp only [hβ])
          refine wpQuiet_nil ?_
          rintro _ ⟨g4, rfl⟩
          go_wp2_with fail
          go_ret
          exact Ret.mk (by first | rfl | (cases β <;> rfl)) (by first | exact belowGrU hb3 _ | (repeat' (first | (with_reducible exact Below.refl _ _) | (with_reducible refine belowGrU ?_ _) | (with_reducible refine belowAlloc ?_ _) | (with_reducible refine Below.setCell ?_ ?_ _) | (with_reducible refine Below.drew ?_) | (simp [go_sem]; done) | (simp [go_sem]; omega))))
    · have coB := fun G : Gr => conv_out (st.gr G).row 0 p.size K (by omega)
      have hwhole : ofL ((l.drop 0).take p.size) = p := by
        rw [List.drop_zero, List.take_of_length_le (by omega), HP.out]
      simp only [hwhole] at coB
      refine wp_region_gr2 (by kernel_rfl) (by kernel_rfl) ?_
      repeat (go_big_quiet_step (fail))
      refine wpQuiet_nil ?_
      rintro _ ⟨g3, rfl⟩
      go_wp2_with fail
      have hcW := HC.out (gr V1 g3)
      have st2 := (st.gr g3).past hcW.2.2.2
      have hBC : B < (gr V1 g3).heap.size := (st.gr g3).row.old.h
      have hDC : D < (gr V1 g3).heap.size := (st.gr g3).old.h
      generalize (gr V1 g3).heap.size = CB at hcW hBC hDC ⊢
      generalize C (gr V1 g3) = K2 at hcW ⊢
      generalize V (gr V1 g3) = V2 at hcW st2 ⊢
      have hK2 := hcW.1
      have rowC := hcW.2.1
      have hwC : w.heap.size ≤ CB := by omega
      clear hcW st coa cob coB hXX hwhole hci hcs HC
      have slC := fun W : World => slice_four W CB p.size K2 a (by omega)
      have slD := fun W : World => slice_four W CB p.size K2 b (by omega)
      have cp1 := fun G : Gr => copy_four (st2.gr G).row (rowC.gr G) (4 * a) (4 * b) (K2 - 4 * a) (K - 4 * b) (by omega) (by omega)
      haveI := rowC.old
      refine wp_region_gr_tail 10 (by kernel_rfl) (by kernel_rfl) ?_
      simp only [List.take_succ_cons, List.take_zero, List.drop_succ_cons, List.drop_zero]
      repeat (go_big_quiet_step (fail))
      refine wpQuiet_nil ?_
      rintro _ ⟨g4, rfl⟩
      go_wp2_with fail
      have row3 := ((((rowC.set (4 * a) (bt l (4 * b)) (by omega)).set (4 * a + 1) (bt l (4 * b + 1)) (by simp; omega)).set (4 * a + 2) (bt l (4 * b + 2)) (by simp; omega)).set (4 * a + 3) (bt l (4 * b + 3)) (by simp; omega)).gr g4
      have st3 := ((((st2.other CB (4 * a) (.int .u8 ((bt l (4 * b)).toNat : Int)) (by omega) (by omega) hwC).other CB (4 * a + 1) (.int .u8 ((bt l (4 * b + 1)).toNat : Int)) (by omega) (by omega) hwC).other CB (4 * a + 2) (.int .u8 ((bt l (4 * b + 2)).toNat : Int)) (by omega) (by omega) hwC).other CB (4 * a + 3) (.int .u8 ((bt l (4 * b + 3)).toNat : Int)) (by omega) (by omega) hwC).gr g4
      generalize hV3 : gr ((((V2.setCell _ _).setCell _ _).setCell _ _).setCell _ _) g4 = V3
      rw [hV3] at row3 st3
      have row3' : Row V3 CB (set4 l (4 * a) (bt l (4 * b)) (bt l (4 * b + 1)) (bt l (4 * b + 2)) (bt l (4 * b + 3))) := row3
      have hlen3 := set4_len l (4 * a) (bt l (4 * b)) (bt l (4 * b + 1)) (bt l (4 * b + 2)) (bt l (4 * b + 3))
      have hsw : swap4 l (4 * a) (4 * b) = set4 (set4 l (4 * a) (bt l (4 * b)) (bt l (4 * b + 1)) (bt l (4 * b + 2)) (bt l (4 * b + 3))) (4 * b) (bt l (4 * a)) (bt l (4 * a + 1)) (bt l (4 * a + 2)) (bt l (4 * a + 3)) := rfl
      clear row3 hV3 st2 rowC cp1
      generalize set4 l (4 * a) (bt l (4 * b)) (bt l (4 * b + 1)) (bt l (4 * b + 2)) (bt l (4 * b + 3)) = l3 at row3' hlen3 hsw
      have cp2 := fun G : Gr => copy_four (st3.gr G).row (row3'.gr G) (4 * b) (4 * a) (K2 - 4 * b) (K - 4 * a) (by omega) (by omega)
      haveI := row3'.old
      refine wp_region_gr_tail 10 (by kernel_rfl) (by kernel_rfl) ?_
      simp only [List.take_succ_cons, List.take_zero, List.drop_succ_cons, List.drop_zero]
      repeat (go_big_quiet_step (fail))
      refine wpQuiet_nil ?_
      rintro _ ⟨g5, rfl⟩
      go_wp2_with fail
      have row5 := ((((row3'.set (4 * b) (bt l (4 * a)) (by omega)).set (4 * b + 1) (bt l (4 * a + 1)) (by simp; omega)).set (4 * b + 2) (bt l (4 * a + 2)) (by simp; omega)).set (4 * b + 3) (bt l (4 * a + 3)) (by simp; omega)).gr g5
      have st5 := ((((st3.other CB (4 * b) (.int .u8 ((bt l (4 * a)).toNat : Int)) (by omega) (by omega) hwC).other CB (4 * b + 1) (.int .u8 ((bt l (4 * a + 1)).toNat : Int)) (by omega) (by omega) hwC).other CB (4 * b + 2) (.int .u8 ((bt l (4 * a + 2)).toNat : Int)) (by omega) (by omega) hwC).other CB (4 * b + 3) (.int .u8 ((bt l (4 * a + 3)).toNat : Int)) (by omega) (by omega) hwC).gr g5
      generalize hV5 : gr ((((V3.setCell _ _).setCell _ _).setCell _ _).setCell _ _) g5 = V5
      rw [hV5] at row5 st5
      have row5' : Row V5 CB (swap4 l (4 * a) (4 * b)) := by rw [hsw]; exact row5
      have hlen5 : (swap4 l (4 * a) (4 * b)).length = l.length := by rw [hsw, set4_len, hlen3]
      have hsum := sum4_swap l (by omega) (by omega) a b (by omega) (by omega) hne
      clear row5 hV5 st3 row3' cp2 hsw hlen3
      generalize swap4 l (4 * a) (4 * b) = l5 at row5' hlen5 hsum
      rw [HS.out] at hsum
      have co5 := fun G : Gr => conv_out (row5'.gr G) 0 p.size K2 (by omega)
      have hw5 : ofL ((l5.drop 0).take p.size) = ofL l5 := by
        rw [List.drop_zero, List.take_of_length_le (by omega)]
      simp only [hw5] at co5
      have c5 := Sum4_any (ofL l5) (by rw [ofL_size]; omega)
      obtain ⟨⟨z0, z1, z2, z3⟩, hZ⟩ : ∃ z, sum4 (ofL l5) = z := ⟨_, rfl⟩
      rw [hZ] at c5 hsum
      have q5 := fun W : World => run_eql_s4 W z0 z1 z2 z3 s0 s1 s2 s3
      simp only [hsum, decide_false] at q5
      obtain ⟨hw0, hw1, hw2, hw3⟩ := st5.was
      simp only at hw0 hw1 hw2 hw3
      haveI := row5'.old
      haveI := st5.old
      simp only [S4.v, S4.cs] at c5
      clear hZ hw5 hsum
      generalize ofL l5 = Q5 at *
      refine wp_region_gr (by kernel_rfl) (by kernel_rfl) ?_
      repeat (go_big_quiet_step (first | (with_reducible exact c5.inClass _ _)))
      refine wpQuiet_nil ?_
      rintro _ ⟨g6, rfl⟩
      go_wp2_with fail
      have st2 := st5.gr g6
      generalize gr V5 g6 = V6 at st2 ⊢
      clear st5 co5 row5' slC slD sla slb c5 q5 hw0 hw1 hw2 hw3
      go_loopw [15] (fun j wr => ∃ m : Nat, m ≤ 4 ∧ j = .int .i64 m ∧ St w B D (xorTo l (4 * a) v m) ⟨s0, s1, s2, s3⟩ wr)
        (fun j _ => 4 - (intOf j).toNat)
      case atStart => exact ⟨0, by omega, rfl, st2⟩
      case round =>
        obtain ⟨m, hm, rfl, st3⟩ := hrel
        by_cases hlt : m < 4
        · have hin : 4 * a + m < (xorTo l (4 * a) v m).length := by rw [xorTo_len]; omega
          have hce := st3.row.cell _ hin
          have hfr := st3.row.free _ hin
          haveI := st3.row.old
          have hix : ∀ W : World, (Instr.indexAt 25 (.slice (some ⟨B, 0, none⟩) p.size K) (.int .i64 (4 * (a : Int) + (m : Int)))).run Try.prog W = .ok (.pointer (some ⟨B, 4 * a + m, none⟩)) W := fun W => index_byte W B p.size K a m (by omega)
          have hnx := st3.set _ (bt (xorTo l (4 * a) v m) (4 * a + m) ^^^ byteOf v m) hin
          have HN := Lib.hid hnx
          clear hnx
          obtain ⟨X, hX⟩ : ∃ X : Nat, (bt (xorTo l (4 * a) v m) (4 * a + m)).toNat = X := ⟨_, rfl⟩
          rw [hX] at hce
          go_wp2_with fail
          refine wp_region_gr_tail 12 (by kernel_rfl) (by kernel_rfl) ?_
          simp only [List.take_succ_cons, List.take_zero, List.drop_succ_cons, List.drop_zero]
          repeat (go_big_quiet_step (fail))
          refine wpQuiet_nil ?_
          rintro _ ⟨g4, rfl⟩
          go_wp2_with fail
          have hxo : bits .xor .u8 (X : Int) ((v : Int) / 2 ^ (8 * m) % 256) = ((bt (xorTo l (4 * a) v m) (4 * a + m) ^^^ byteOf v m).toNat : Int) := by
            rw [← hX, byteOf_int, bits_xor_u8]
          rw [hxo]
          exact ⟨⟨m + 1, hlt, by go_num, HN.out.gr g4⟩, by simp [intOf]; omega⟩
        · obtain rfl : m = 4 := by omega
          have co := fun G : Gr => conv_out (st3.gr G).row 0 p.size K (by rw [xorTo_len]; omega)
          have hwh : ofL (((xorTo l (4 * a) v 4).drop 0).take p.size) = ofL (xorTo l (4 * a) v 4) := by
            rw [List.drop_zero, List.take_of_length_le (by rw [xorTo_len]; omega)]
          simp only [hwh] at co
          have c2 := Sum4_any (ofL (xorTo l (4 * a) v 4)) (by rw [ofL_size, xorTo_len]; omega)
          have hx := sum4_xor l (by omega) a v (by omega) hv
          rw [HS.out] at hx
          obtain ⟨⟨z0, z1, z2, z3⟩, hZ⟩ : ∃ z, sum4 (ofL (xorTo l (4 * a) v 4)) = z := ⟨_, rfl⟩
          rw [hZ] at c2 hx
          have q := fun W : World => run_eql_s4 W z0 z1 z2 z3 s0 s1 s2 s3
          have hbe : decide ((⟨z0, z1, z2, z3⟩ : S4) = ⟨s0, s1, s2, s3⟩) = ((v : Int) == 0) := by
            rw [decide_eq_decide.2 hx]
            by_cases e : v = 0
            · subst e; rfl
            · simp [e]
          rw [hbe] at q
          have hb3 := st3.below
          haveI : Upto w.heap.size wr := ⟨hb3.size⟩
          haveI := st3.old
          obtain ⟨hw0, hw1, hw2, hw3⟩ := st3.was
          simp only at hw0 hw1 hw2 hw3
          clear hZ hwh hbe hx
          simp only [S4.v, S4.cs] at c2
          generalize ofL (xorTo l (4 * a) v 4) = Q at *
          obtain ⟨β, hβ⟩ : ∃ β : Bool, ((v : Int) == 0) = β := ⟨_, rfl⟩
          rw [hβ] at q
          go_wp2_with fail
          refine wp_region_gr (by kernel_rfl) (by kernel_rfl) ?_
          repeat (first | go_big_quiet_step (first | (with_reducible exact c2.inClass _ _)) | simp only [hβ])
          refine wpQuiet_nil ?_
          rintro _ ⟨g4, rfl⟩
          go_wp2_with fail
          go_ret
          exact Ret.mk (by first | rfl | (cases β <;> rfl)) (by first | exact belowGrU hb3 _ | (repeat' (first | (with_reducible exact Below.refl _ _) | (with_reducible refine belowGrU ?_ _) | (with_reducible refine belowAlloc ?_ _) | (with_reducible refine Below.setCell ?_ ?_ _) | (with_reducible refine Below.drew ?_) | (simp [go_sem]; done) | (simp [go_sem]; omega))))
  · go_enter Try.func3, Try.ntmps3
    go_wp2_with (go_at_call 8; with_reducible refine (awake_any.at _).mono ?_; rintro e w' ⟨rfl, g, rfl⟩)
    all_goals (try (exfalso; omega))
    all_goals go_ret
    all_goals exact Ret.mk rfl (by (repeat' (first | (with_reducible exact Below.refl _ _) | (with_reducible refine belowGrU ?_ _) | (with_reducible refine belowAlloc ?_ _) | (with_reducible refine Below.setCell ?_ ?_ _) | (with_reducible refine Below.drew ?_) | (simp [go_sem]; done) | (simp [go_sem]; omega))))

theorem lawWalk : LawWalk 3 Try.f3.params := by
  intro H enc W base args ds p hval hA _ _
  rw [Try.params3] at hA hval
  obtain ⟨v0, v1, v2, v3, d0, d1, d2, d3, p0, p1, p2, p3, rfl, rfl, rfl, h0, h1, h2, h3⟩ := trodAll_four hA
  obtain ⟨s, rfl, rfl, rfl, hs⟩ := open_string Try.underlying9 (hval 0 9 v0 rfl rfl) h0
  obtain ⟨i, rfl, _, _, wi⟩ := open_int Try.underlying22 (hval 1 22 v1 rfl rfl) h1
  obtain ⟨k, rfl, _, _, wk⟩ := open_int Try.underlying22 (hval 2 22 v2 rfl rfl) h2
  obtain ⟨b, rfl, _, _, wb⟩ := open_int Try.underlying23 (hval 3 23 v3 rfl rfl) h3
  unfold maxLen at hs
  have hi : 0 ≤ i ∧ i ≤ 65535 := by
    simp [Lit.wf, IntKind.min, IntKind.max, IntKind.signed, IntKind.bits] at wi
    omega
  have hk : 0 ≤ k ∧ k ≤ 65535 := by
    simp [Lit.wf, IntKind.min, IntKind.max, IntKind.signed, IntKind.bits] at wk
    omega
  have hb : 0 ≤ b ∧ b ≤ 4294967295 := by
    simp [Lit.wf, IntKind.min, IntKind.max, IntKind.signed, IntKind.bits] at wb
    omega
  obtain ⟨i', rfl⟩ := Int.eq_ofNat_of_zero_le hi.1
  obtain ⟨k', rfl⟩ := Int.eq_ofNat_of_zero_le hk.1
  obtain ⟨b', rfl⟩ := Int.eq_ofNat_of_zero_le hb.1
  exact walk s hs i' (by omega) k' (by omega) b' (by omega) W

set_option maxRecDepth 100000 in
theorem holds : Rows.FletchWordsSaid :=
  OpenClaim.holds_of_wide 3 Try.f3 rfl rfl rfl rfl rfl rfl rfl ⟨rfl, rfl, rfl, rfl, rfl⟩ rfl rfl rfl rfl rfl (by kernel_rfl) Try.func3 (by kernel_rfl)
    (of_decide_eq_true (by kernel_rfl)) (by unfold Func.isWrapper; first | (rw [if_pos (by decide +kernel)]; kernel_rfl) | (rw [if_neg (by decide +kernel)]; exact ⟨rfl, rfl⟩))
    (fun os started H enc _ => law_lifted (s := Rows.fletchWordsSpec) started (by kernel_rfl) Try.func3 rfl rfl Try.underlying4 (by kernel_rfl)
      (fun ds h => by
        rw [Try.params3] at h
        match ds, h with
        | [d1, d2, d3, d4], _ => rfl)
      (ChangeSpec.witness6 (enc := enc) (C := Try.checked) false ⟨#[], #[.string ⟨#[]⟩, .int .u16 0, .int .u16 0, .int .u32 0], []⟩ 8 (by kernel_rfl) (by kernel_rfl) (by kernel_rfl) (by kernel_rfl))
      lawWalk)
#print axioms holds

end FletchWords
end Go.Proofs.Ytnflakaphbjbhaa

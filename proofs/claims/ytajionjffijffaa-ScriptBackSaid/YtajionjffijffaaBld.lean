/-
  strings.Builder's writers: the walks of the library's shelf, turned to this program's functions (its copyCheck has another else-branch).
-/
import Derived.Test.YtajionjffijffaaCap
import Derived.Test.YtajionjffijffaaShelf
namespace Go.Proofs.Ytajionjffijffaa
open Go.RowKit Go.Sort

set_option maxHeartbeats 1000000 in
set_option maxRecDepth 100000 in
theorem copyCheck_used (b : Nat) (w : World) (h0 : w.cell? ⟨b, 0, none⟩ = some (.pointer (some ⟨b, 0, none⟩))) :
    Calls Try.prog 45 #[.pointer (some ⟨b, 0, none⟩)] w fun e w' => e = .returned (.tuple #[]) ∧ w' = w := by
  obtain ⟨j, hj, _⟩ := Option.map_eq_some_iff.1 Try.Builder_Extra_169.sizeBuilder
  have hj : Try.prog.info? 78 = some j := hj
  go_enter Try.func45, Try.ntmps45
  go_wp2
  rw [Lib.run_neq_ptr_same w _ Try.underlying76 hj]
  go_wp2
  go_end0
  exact ⟨rfl, rfl⟩

set_option maxHeartbeats 1000000 in
set_option maxRecDepth 100000 in
theorem copyCheck_fresh (b : Nat) (w : World) (h0 : w.cell? ⟨b, 0, none⟩ = some (.pointer none)) (hsh : w.shape? b = some (78, 2)) (hfz : w.frozen? ⟨b, 0, none⟩ = false) :
    Calls Try.prog 45 #[.pointer (some ⟨b, 0, none⟩)] w fun e w' => e = .returned (.tuple #[]) ∧ w' = w.setCell ⟨b, 0, none⟩ (.pointer (some ⟨b, 0, none⟩)) := by
  obtain ⟨j, hj, hjs⟩ := Option.map_eq_some_iff.1 Try.Builder_Extra_169.sizeBuilder
  have hj : Try.prog.info? 78 = some j := hj
  go_enter Try.func45, Try.ntmps45
  go_wp2
  rw [Lib.run_to_unsafe w ⟨b, 0, none⟩ Try.underlying76 Try.underlying108 hj (by rw [hjs]; decide) hsh (Nat.zero_lt_succ 1)]
  simp only [Result.andThen]
  rw [Oper.upon_value]
  go_wp2
  rw [run_callFunc_extern Try.func54 (by kernel_rfl) (by kernel_rfl) (by kernel_rfl) (e := Extern.AbiNoEscape.same) (by kernel_rfl)]
  rw [Lib.run_noEscape]
  simp only [Result.andThen]
  rw [Oper.upon_value]
  go_wp2
  rw [Lib.run_from_unsafe w ⟨b, 0, none⟩ Try.underlying108 Try.underlying76 hj hsh Try.Builder_Extra_169.liesBuilder]
  simp only [Result.andThen]
  rw [Oper.upon_value]
  go_wp2
  go_end0
  exact ⟨rfl, rfl⟩

/-- a builder in memory: its bytes lie in a row at or behind lo -/
def Bld (lo b : Nat) (bs : List Value) (w : World) : Prop := ∃ p v, (p = .pointer none ∨ p = .pointer (some ⟨b, 0, none⟩)) ∧ w.heap[b]? = some (.cells #[p, v] 78 (0, 0)) ∧ w.ownsRowF lo 5 1 v bs.length bs
/-- .. one that has been written -/
def BldU (lo b : Nat) (bs : List Value) (w : World) : Prop := ∃ v, w.heap[b]? = some (.cells #[.pointer (some ⟨b, 0, none⟩), v] 78 (0, 0)) ∧ w.ownsRowF lo 5 1 v bs.length bs
/-- what a write leaves -/
structure Wr (lo b : Nat) (w w' : World) : Prop where
  off : Off (fun k => k = b ∨ lo ≤ k) w w'
  kept : Lib.OthersKept 5 (some b) w w'
theorem Wr.refl (lo b : Nat) (w : World) : Wr lo b w w := ⟨Off.refl _ _, Lib.OthersKept.refl _ _ _⟩
theorem Wr.trans {lo b : Nat} {w w1 w2 : World} (h : Wr lo b w w1) (k : Wr lo b w1 w2) : Wr lo b w w2 := ⟨h.off.trans k.off, h.kept.trans k.kept⟩
theorem Wr.set {lo b : Nat} {w w1 : World} (h : Wr lo b w w1) (i : Nat) (v : Value) : Wr lo b w (w1.setCell ⟨b, i, none⟩ v) := ⟨Off.setCell h.off (p := ⟨b, i, none⟩) (.inl rfl) _, h.kept.setCell ⟨b, i, none⟩ rfl _⟩
theorem Wr.alloc {lo b : Nat} {w w1 : World} (h : Wr lo b w w1) (o : Obj) : Wr lo b w (w1.alloc o) := ⟨h.off.trans (Off.of_below (bel1' _ _)), h.kept.alloc _⟩
theorem Wr.grown {lo b : Nat} {w w1 w2 : World} {v : Value} {n : Nat} {xs : List Value} (h : Wr lo b w w1) (ho : w1.ownsRowF lo 5 1 v n xs) (hg : w1.grownBy w2 v.ownBlock) : Wr lo b w w2 := by
  refine ⟨h.off.trans ⟨Below.grown (Below.refl _ _) hg (Nat.zero_le _) (fun _ _ => Nat.zero_le _), fun k hk hkl => hg.block k hkl (fun e => hk (.inr (ho.lt k e.symm).1))⟩, h.kept.grown hg (Lib.ownsRowF_kind ho)⟩
theorem ownsRowF_off {W W' : World} {B : Nat} {e : TypeId} {sz : Nat} {v : Value} {n : Nat} {xs : List Value} (h : W.ownsRowF B e sz v n xs) (hk : ∀ g, v.ownBlock = some g → W'.heap[g]? = W.heap[g]?) : W'.ownsRowF B e sz v n xs := by
  refine ⟨h.1, ?_⟩
  rcases h.2 with hn | ⟨g, cap, cur, fz, rfl, hb, hg, hrest⟩
  · exact .inl hn
  · exact .inr ⟨g, cap, cur, fz, rfl, hb, (hk g rfl).trans hg, hrest⟩
theorem ownsRowF_base {W : World} {B B' : Nat} {e : TypeId} {sz : Nat} {v : Value} {n : Nat} {xs : List Value} (h : W.ownsRowF B e sz v n xs) (hB : B' ≤ B) : W.ownsRowF B' e sz v n xs := by
  refine ⟨h.1, ?_⟩
  rcases h.2 with hn | ⟨g, cap, cur, fz, rfl, hb, hrest⟩
  · exact .inl hn
  · exact .inr ⟨g, cap, cur, fz, rfl, by omega, hrest⟩
theorem Bld.off {lo b : Nat} {bs : List Value} {W W' : World} {X : Nat → Prop} (h : Bld lo b bs W) (ho : Off X W W') (hb : ¬ X b) (hX : ∀ k, lo ≤ k → ¬ X k) : Bld lo b bs W' := by
  obtain ⟨p, v, hp, hh, hown⟩ := h
  exact ⟨p, v, hp, (ho.same b hb (Array.getElem?_eq_some_iff.1 hh).1).trans hh, ownsRowF_off hown fun k hk => ho.same k (hX k (hown.lt k hk).1) (hown.lt k hk).2⟩
theorem Bld.grow {lo b : Nat} {bs : List Value} {W W' : World} (h : Bld lo b bs W) (hb : Below W.heap.size W W') : Bld lo b bs W' := h.off (X := fun _ => False) (Off.of_below hb) (fun e => e) (fun _ _ e => e)
theorem Bld.isF {lo b B : Nat} {bs : List Value} {W : World} (h : Bld lo b bs W) (hB : B ≤ b) (hlo : B ≤ lo) : Lib.IsBuilderF 78 5 B b bs W := by
  obtain ⟨p, v, hp, hh, hown⟩ := h
  have h1 : Lib.BuilderAtF 78 5 B b p bs W := ⟨hB, v, hh, ownsRowF_base hown hlo, Lib.ownBlock_neF hown hh (by decide)⟩
  rcases hp with rfl | rfl
  · exact .inl h1
  · exact .inr h1
theorem Bld.lt {lo b : Nat} {bs : List Value} {W : World} (h : Bld lo b bs W) : b < W.heap.size := by
  obtain ⟨p, v, hp, hh, hown⟩ := h
  exact (Array.getElem?_eq_some_iff.1 hh).1
theorem BldU.bld {lo b : Nat} {bs : List Value} {W : World} (h : BldU lo b bs W) : Bld lo b bs W := by
  obtain ⟨v, h⟩ := h
  exact ⟨_, v, .inr rfl, h⟩
theorem BldU.put {lo b : Nat} {bs' : List Value} {w : World} {v v' : Value} (hb : w.heap[b]? = some (.cells #[.pointer (some ⟨b, 0, none⟩), v] 78 (0, 0))) (hown : w.ownsRowF lo 5 1 v' bs'.length bs') : BldU lo b bs' (w.setCell ⟨b, 1, none⟩ v') := by
  have hne := Lib.ownBlock_neF hown hb (by decide)
  exact ⟨v', by simp [World.setCell, Array.getElem?_modify, hb], ownsRowF_off hown fun k hk => Below.heap_setCell _ _ _ _ (fun e => hne (by rw [hk]; simpa using e))⟩
theorem bld_new (w : World) (lo : Nat) : Bld lo w.heap.size [] (w.alloc (.cells #[.pointer none, .slice none 0 0] 78)) := ⟨_, _, .inl rfl, World.alloc_heap_new _ _, World.ownsRowF_nil _ _ _ _⟩

theorem copyCheck_b (lo b : Nat) (bs : List Value) (w : World) (h : Bld lo b bs w) :
    Calls Try.prog 45 #[.pointer (some ⟨b, 0, none⟩)] w fun e w' => e = .returned (.tuple #[]) ∧ BldU lo b bs w' ∧ Wr lo b w w' := by
  obtain ⟨p, v, hp, hh, hown⟩ := h
  have hne := Lib.ownBlock_neF hown hh (by decide)
  rcases hp with rfl | rfl
  · refine (copyCheck_fresh b w (by rw [Lib.cell_of_heap hh]; rfl) (by simp [World.shape?, hh]) (Lib.frozen_of_heap hh 0)).mono ?_
    rintro e w' ⟨rfl, rfl⟩
    exact ⟨rfl, ⟨v, by simp [World.setCell, Array.getElem?_modify, hh], ownsRowF_off hown fun k hk => Below.heap_setCell _ _ _ _ (fun e => hne (by rw [hk]; simpa using e))⟩, (Wr.refl _ _ _).set _ _⟩
  · refine (copyCheck_used b w (by rw [Lib.cell_of_heap hh]; rfl)).mono ?_
    rintro e w' ⟨rfl, rfl⟩
    exact ⟨rfl, ⟨v, hh, hown⟩, Wr.refl _ _ _⟩

set_option maxHeartbeats 2000000 in
set_option maxRecDepth 100000 in
theorem WriteByte_b (lo b : Nat) (bs : List Value) (c : Int) (w : World) (h : Bld lo b bs w) (hlen : bs.length + 1 ≤ 140737488355328) (hBw : lo ≤ w.heap.size) :
    Calls Try.prog 32 #[.pointer (some ⟨b, 0, none⟩), .int .u8 c] w fun e w' => e = .returned .nilIface ∧ BldU lo b (bs ++ [.int .u8 c]) w' ∧ Wr lo b w w' := by
  obtain ⟨i0, hi, hz0, hz1, hz2⟩ := info_parts Try.Builder_Extra_169.infoByte
  go_enter Try.func32, Try.ntmps32
  go_wp2_with (go_at_call 45; refine (copyCheck_b lo b bs _ h).mono ?_)
  rintro e w1 ⟨rfl, h1, hb1⟩
  obtain ⟨v, hbk, hown⟩ := h1
  have hne := Lib.ownBlock_neF hown hbk (by decide)
  have hzw := hb1.off.size
  have c0 : w1.cell? ⟨b, 0, none⟩ = some (.pointer (some ⟨b, 0, none⟩)) := by rw [Lib.cell_of_heap hbk]; rfl
  have c1 : w1.cell? ⟨b, 1, none⟩ = some v := by rw [Lib.cell_of_heap hbk]; rfl
  go_wp2_with (at_builtin; refine wpList_append_ownF _ rfl _ _ 75 rfl lo 5 i0 (.int .u8 0) 1 1 Try.underlying75 hi hz0 hz1 hz2 rfl (by decide) _ _ _ rfl (hown.alloc _) ⟨w1.heap.size, 0, none⟩ 1 1 [.int .u8 c] rfl rfl ?c1 ?c2 ?c3 ?c4 ?c5 ?_)
  case c1 =>
    intro j u hj
    match j, hj with
    | 0, hj => simp at hj; subst hj; simp [Addr.add]
  case c2 => intro u hu; simp at hu; subst hu; rfl
  case c3 => unfold maxLen; omega
  case c4 => omega
  case c5 => simp; omega
  intro v' w2 hown' hgrow _
  have hlt : b < w1.heap.size := by
    rcases Nat.lt_or_ge b w1.heap.size with h' | h'
    · exact h'
    · simp [Array.getElem?_eq_none h'] at hbk
  have hb2 : w2.heap[b]? = some (.cells #[.pointer (some ⟨b, 0, none⟩), v] 78 (0, 0)) := by
    rw [hgrow.block b (by simp; omega) (fun e => hne e.symm), Lib.alloc_old w1 _ b hlt]
    exact hbk
  have d0 : w2.cell? ⟨b, 0, none⟩ = some (.pointer (some ⟨b, 0, none⟩)) := by rw [Lib.cell_of_heap hb2]; rfl
  have d1 : w2.cell? ⟨b, 1, none⟩ = some v := by rw [Lib.cell_of_heap hb2]; rfl
  have f1 : w2.frozen? ⟨b, 1, none⟩ = false := Lib.frozen_of_heap hb2 1
  obtain ⟨g, cap, rfl⟩ : ∃ g cap, v' = .slice (some ⟨g, 0, none⟩) (bs.length + 1) cap := by
    rcases hown'.2 with ⟨_, h0⟩ | ⟨g, cap, cur, fz, hv, _⟩
    · omega
    · exact ⟨g, cap, hv⟩
  go_wp2
  go_ret
  refine ⟨rfl, BldU.put hb2 (bs' := bs ++ [.int .u8 c]) (by simpa using hown'), ((hb1.alloc _).grown (hown.alloc _) hgrow).set _ _⟩

set_option maxHeartbeats 2000000 in
set_option maxRecDepth 100000 in
theorem WriteString_b (lo b : Nat) (bs : List Value) (s : ByteArray) (w : World) (h : Bld lo b bs w) (hlen : bs.length + s.size ≤ 140737488355328) (hBw : lo ≤ w.heap.size) :
    Calls Try.prog 29 #[.pointer (some ⟨b, 0, none⟩), .string s] w fun e w' => e = .returned (.tuple #[.int .i64 s.size, .nilIface]) ∧ BldU lo b (bs ++ Lib.strCells s) w' ∧ Wr lo b w w' := by
  obtain ⟨i0, hi, hz0, hz1, hz2⟩ := info_parts Try.Builder_Extra_169.infoByte
  go_enter Try.func29, Try.ntmps29
  go_wp2_with (go_at_call 45; refine (copyCheck_b lo b bs _ h).mono ?_)
  rintro e w1 ⟨rfl, h1, hb1⟩
  obtain ⟨v, hbk, hown⟩ := h1
  have hne := Lib.ownBlock_neF hown hbk (by decide)
  have hzw := hb1.off.size
  have c0 : w1.cell? ⟨b, 0, none⟩ = some (.pointer (some ⟨b, 0, none⟩)) := by rw [Lib.cell_of_heap hbk]; rfl
  have c1 : w1.cell? ⟨b, 1, none⟩ = some v := by rw [Lib.cell_of_heap hbk]; rfl
  go_wp2_with (at_builtin; refine Lib.wpList_append_own_stringF _ rfl _ _ 75 9 rfl lo 5 i0 Try.underlying75 Try.underlying9 hi hz0 hz1 hz2 _ _ _ rfl hown s rfl ?c3 ?c4 ?c5 ?_)
  case c3 => unfold maxLen; omega
  case c4 => omega
  case c5 => omega
  intro v' w2 hown' hgrow _
  have hlt : b < w1.heap.size := by
    rcases Nat.lt_or_ge b w1.heap.size with h' | h'
    · exact h'
    · simp [Array.getElem?_eq_none h'] at hbk
  have hb2 : w2.heap[b]? = some (.cells #[.pointer (some ⟨b, 0, none⟩), v] 78 (0, 0)) := by
    rw [hgrow.block b hlt (fun e => hne e.symm)]
    exact hbk
  have d0 : w2.cell? ⟨b, 0, none⟩ = some (.pointer (some ⟨b, 0, none⟩)) := by rw [Lib.cell_of_heap hb2]; rfl
  have d1 : w2.cell? ⟨b, 1, none⟩ = some v := by rw [Lib.cell_of_heap hb2]; rfl
  have f1 : w2.frozen? ⟨b, 1, none⟩ = false := Lib.frozen_of_heap hb2 1
  obtain ⟨ao, n', cap, rfl⟩ : ∃ ao n' cap, v' = .slice ao n' cap := by
    rcases hown'.2 with ⟨hv, _⟩ | ⟨g, cap, cur, fz, hv, _⟩
    · exact ⟨_, _, _, hv⟩
    · exact ⟨_, _, _, hv⟩
  go_wp2
  go_ret2
  refine ⟨rfl, BldU.put hb2 (bs' := bs ++ Lib.strCells s) (by simpa [Lib.strCells_length] using hown'), (hb1.grown hown hgrow).set _ _⟩

set_option maxHeartbeats 4000000 in
set_option maxRecDepth 100000 in
theorem AppendRune_ascii (lo : Nat) (v : Value) (n : Nat) (xs : List Value) (r : Int) (h0 : 0 ≤ r) (h1 : r ≤ 127) (w : World) (hown : w.ownsRowF lo 5 1 v n xs) (hlen : n + 4 ≤ 140737488355328) (hBw : lo ≤ w.heap.size) :
    Calls Try.prog 46 #[v, .int .i32 r] w fun e w' => ∃ v', e = .returned v' ∧ w'.ownsRowF lo 5 1 v' (n + 1) (xs ++ [.int .u8 r]) ∧ ∃ o, (w.alloc o).grownBy w' v.ownBlock := by
  obtain ⟨i0, hi, hz0, hz1, hz2⟩ := info_parts Try.Builder_Extra_169.infoByte
  go_enter Try.func46, Try.ntmps46
  go_wp2_with (at_builtin; refine wpList_append_ownF _ rfl _ _ 75 rfl lo 5 i0 (.int .u8 0) 1 1 Try.underlying75 hi hz0 hz1 hz2 rfl (by decide) _ _ _ rfl (hown.alloc _) ⟨w.heap.size, 0, none⟩ 1 1 [.int .u8 r] rfl rfl ?c1 ?c2 ?c3 ?c4 ?c5 ?_)
  all_goals first
    | (intro v' w2 hown' hgrow _; go_wp2; go_ret; exact ⟨_, rfl, hown', _, hgrow⟩)
    | (unfold maxLen; omega)
    | omega
    | (simp; omega)
    | rfl
    | (intro u hu; simp at hu; subst hu; rfl)
    | (intro j u hj
       match j, hj with
       | 0, hj => simp at hj; subst hj; simp [Addr.add]
       | (j + 1), hj => simp at hj)

set_option maxHeartbeats 4000000 in
set_option maxRecDepth 100000 in
theorem WriteRune_b (lo b : Nat) (bs : List Value) (r : Int) (hr0 : 0 ≤ r) (hr1 : r ≤ 127) (w : World) (h : Bld lo b bs w) (hlen : bs.length + 4 ≤ 140737488355328) (hBw : lo ≤ w.heap.size) :
    Calls Try.prog 33 #[.pointer (some ⟨b, 0, none⟩), .int .i32 r] w fun e w' => e = .returned (.tuple #[.int .i64 1, .nilIface]) ∧ BldU lo b (bs ++ [.int .u8 r]) w' ∧ Wr lo b w w' := by
  go_enter Try.func33, Try.ntmps33
  go_wp2_with (go_at_call 45; refine (copyCheck_b lo b bs _ h).mono ?_)
  rintro e w1 ⟨rfl, h1, hb1⟩
  obtain ⟨v, hbk, hown⟩ := h1
  have hne := Lib.ownBlock_neF hown hbk (by decide)
  have hzw := hb1.off.size
  obtain ⟨ao, cap, rfl⟩ : ∃ ao cap, v = .slice ao bs.length cap := by
    rcases hown.2 with ⟨hv, h0⟩ | ⟨g, cap, cur, fz, hv, _⟩
    · exact ⟨none, 0, by rw [hv, h0]⟩
    · exact ⟨_, _, hv⟩
  have c0 : w1.cell? ⟨b, 0, none⟩ = some (.pointer (some ⟨b, 0, none⟩)) := by rw [Lib.cell_of_heap hbk]; rfl
  have c1 : w1.cell? ⟨b, 1, none⟩ = some (.slice ao bs.length cap) := by rw [Lib.cell_of_heap hbk]; rfl
  go_wp2_with (go_at_call 46; refine (AppendRune_ascii lo _ bs.length bs r hr0 hr1 _ hown hlen (by omega)).mono ?_)
  rintro e w2 ⟨v', rfl, hown', o, hgrow⟩
  have hlt : b < w1.heap.size := by
    rcases Nat.lt_or_ge b w1.heap.size with h' | h'
    · exact h'
    · simp [Array.getElem?_eq_none h'] at hbk
  have hb2 : w2.heap[b]? = some (.cells #[.pointer (some ⟨b, 0, none⟩), .slice ao bs.length cap] 78 (0, 0)) := by
    rw [hgrow.block b (by simp; omega) (fun e => hne e.symm), Lib.alloc_old w1 _ b hlt]
    exact hbk
  have d0 : w2.cell? ⟨b, 0, none⟩ = some (.pointer (some ⟨b, 0, none⟩)) := by rw [Lib.cell_of_heap hb2]; rfl
  have d1 : w2.cell? ⟨b, 1, none⟩ = some (.slice ao bs.length cap) := by rw [Lib.cell_of_heap hb2]; rfl
  have f1 : w2.frozen? ⟨b, 1, none⟩ = false := Lib.frozen_of_heap hb2 1
  obtain ⟨g, cap', rfl⟩ : ∃ g cap', v' = .slice (some ⟨g, 0, none⟩) (bs.length + 1) cap' := by
    rcases hown'.2 with ⟨_, h0⟩ | ⟨g, cap', cur, fz, hv, _⟩
    · omega
    · exact ⟨g, cap', hv⟩
  go_wp2
  go_ret2
  refine ⟨?_, BldU.put hb2 (bs' := bs ++ [.int .u8 r]) (by simpa using hown'), ((hb1.alloc _).grown (hown.alloc _) hgrow).set _ _⟩
  · have e : ((bs.length : Int) + 1 - (bs.length : Int)) = 1 := by omega
    simp [e]

end Go.Proofs.Ytajionjffijffaa

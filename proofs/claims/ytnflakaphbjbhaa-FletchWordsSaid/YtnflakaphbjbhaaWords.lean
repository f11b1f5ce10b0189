/-
  fletch.Words and le.Pad: a text's words, one by one.
-/
import Derived.Test.YtnflakaphbjbhaaRead
import Derived.Test.YtnflakaphbjbhaaRange
namespace Go.Proofs.Ytnflakaphbjbhaa
open Go.RowKit Go.Sort

/-- a text, filled up to whole words -/
def padN (s : ByteArray) : Nat := (4 - s.size % 4) % 4
def pad4 (s : ByteArray) : ByteArray := s ++ ⟨(Lib.repeatL [0] (padN s)).toArray⟩
theorem pad4_list (s : ByteArray) : (pad4 s).data.toList = s.data.toList ++ Lib.repeatL [0] (padN s) := by
  simp [pad4, ByteArray.data_append]
@[go_sem] theorem pad4_size (s : ByteArray) : (pad4 s).size = s.size + padN s := by
  rw [← size_list, pad4_list, List.length_append, size_list, Lib.repeatL_length]; simp
theorem padN_lt (s : ByteArray) : padN s < 4 := Nat.mod_lt _ (by omega)
theorem pad4_mod (s : ByteArray) : (pad4 s).size % 4 = 0 := by rw [pad4_size, padN]; omega

theorem Pad_any (s : ByteArray) (hs : s.size < 4611686018427387900) : Pure Try.prog 9 #[.string s, .int .i64 4] (.string (pad4 s)) := by
  intro w
  have c0 := fun W : World => Try.strings_Repeat ⟨#[0]⟩ (padN s) W (by have := padN_lt s; omega) (by have := padN_lt s; show 1 * padN s ≤ _; omega)
  have c1 : ∀ (W : World) (z : Int), z = padN s → Calls Try.prog 21 #[.string ⟨#[0]⟩, .int .i64 z] W fun e w' => e = .returned (.string ⟨(Lib.repeatL [0] (padN s)).toArray⟩) ∧ ∃ g : Gr, w' = gr W g := by
    rintro W z rfl
    exact (c0 W).mono fun e w' ⟨he, hb⟩ => ⟨he, gr_of_below hb⟩
  clear c0
  have hp := pad4_size s
  have hlt := padN_lt s
  have hpd : padN s = (4 - s.size % 4) % 4 := rfl
  have hcat : s ++ ⟨(Lib.repeatL [0] (padN s)).toArray⟩ = pad4 s := rfl
  have hpz : (⟨(Lib.repeatL [0] (padN s)).toArray⟩ : ByteArray).size = padN s := by rw [← size_list]; simp [Lib.repeatL_length]
  have HC := Lib.hid hcat
  generalize (⟨(Lib.repeatL [0] (padN s)).toArray⟩ : ByteArray) = Z at c1 hpz HC
  clear hcat
  go_enter Try.func9, Try.ntmps9
  go_wp2_with (go_at_call 21; refine (c1 _ _ (by omega)).mono ?_; rintro e w' ⟨rfl, g, rfl⟩)
  go_ret
  exact Ret.mk (by rw [HC.out]; rfl) (by (repeat' (first | (with_reducible exact Below.refl _ _) | (with_reducible refine belowGrU ?_ _) | (with_reducible refine belowAlloc ?_ _) | (with_reducible refine Below.setCell ?_ ?_ _) | (with_reducible refine Below.drew ?_) | (simp [go_sem]; done) | (simp [go_sem]; omega))))

/-! ### the words -/
def wordAt (s : ByteArray) (k : Nat) : Nat := num s (4 * k) 4
def nwords (s : ByteArray) : Nat := s.size / 4
def wordsTo (s : ByteArray) (k : Nat) : List Nat := (List.range k).map (wordAt s)
def wordsL (s : ByteArray) : List Nat := wordsTo s (nwords s)
theorem wordsTo_succ (s : ByteArray) (k : Nat) : wordsTo s (k + 1) = wordsTo s k ++ [wordAt s k] := by simp [wordsTo, List.range_succ]
theorem wordsTo_pre (s : ByteArray) {k n : Nat} (h : k ≤ n) : wordsTo s k <+: wordsTo s n := by
  obtain ⟨d, rfl⟩ := Nat.exists_eq_add_of_le h
  induction d with
  | zero => exact List.prefix_refl _
  | succ d ih => rw [← Nat.add_assoc, wordsTo_succ]; exact (ih (by omega)).trans (List.prefix_append _ _)

attribute [local go_sem] Oper.semAt_some

theorem Rd.kept {b : Nat} {s : ByteArray} {i B : Nat} {w w' : World} (h : Rd b s i w) (hk : Kept B w w') (hB : B ≤ b) : Rd b s i w' := by
  have hb := hk.same b hB h.old.h
  exact ⟨⟨Nat.lt_of_lt_of_le h.old.h hk.size⟩, (World.cell?_of_block hb).trans h.c0, (World.cell?_of_block hb).trans h.c1, (World.frozen?_of_block hb).trans h.fr⟩

/-- the iterator over a text's words: -/
theorem Words1_own (s : ByteArray) (hs : s.size < 4611686018427387900) (B : Nat) (w : World) (hB : B < w.heap.size) (hc : w.cell? ⟨B, 0, none⟩ = some (.string s)) :
    SeqOwn Try.prog 26 #[.pointer (some ⟨B, 0, none⟩)] (fun x : Nat => #[.int .u64 (x : Int)]) (fun xs => xs = wordsL (pad4 s)) w := by
  intro l J Jx W hW hJ hJx hY h0
  have hc' : W.cell? ⟨B, 0, none⟩ = some (.string s) := (hW.cell (p := ⟨B, 0, none⟩) hB).trans hc
  clear hc
  refine (callsIn_wide (n := 3)).1 ?_
  refine callsIn_of_wp Try.func26 rfl trivial ?_ rfl
  simp only [Try.ntmps26, List.size_toArray, List.length_cons, List.length_nil, Nat.reduceAdd, Nat.reduceSub, Array.replicate_succ, Array.replicate_zero, List.push_toArray, List.append_toArray, List.nil_append, List.cons_append]
  have cP := Pad_any s hs
  gi_wp2_with (first
    | (refine ⟨trivial, ?_⟩; gi_at_call 9; refine (callsIn_wide.2 (cP.at _)).mono ?_; rintro e w' ⟨rfl, g, rfl⟩)
    | (refine ⟨trivial, ?_⟩; gi_at_call 13; refine (callsIn_wide.2 (New_at _ _)).mono ?_; rintro e w' ⟨rfl, rfl⟩))
  obtain ⟨V, hV⟩ : ∃ V, (gr W g).alloc (.cells #[.string (pad4 s), .int .i64 0] 50) = V := ⟨_, rfl⟩
  obtain ⟨Z, hZ⟩ : ∃ Z, (gr W g).heap.size = Z := ⟨_, rfl⟩
  have hR0 : Rd Z (pad4 s) 0 V := by
    rw [← hV, ← hZ]
    exact ⟨inferInstance, by simp [go_sem], by simp [go_sem], by simp [go_sem]⟩
  have hWV : Below W.heap.size W V := by rw [← hV]; exact belowAlloc (belowGrU (Below.refl _ _) _) _
  have hJ0 : J [] V := hJ _ _ _ h0 hWV
  have hZ0 : W.heap.size ≤ Z := by rw [← hZ]; exact size_le_gr _ _
  have hp4 := pad4_mod s
  have hpl : (pad4 s).size < 4611686018427387904 := by rw [pad4_size]; have := padN_lt s; omega
  rw [hV, hZ]
  clear hV hZ hc' cP
  obtain ⟨p, hp⟩ : ∃ p, pad4 s = p := ⟨_, rfl⟩
  rw [hp] at hR0 hY hp4 hpl ⊢
  have HP := Lib.hid hp
  clear hp
  gi_loopw [] (fun wr => ∃ k : Nat, k ≤ nwords p ∧ Rd Z p (4 * k) wr ∧ J (wordsTo p k) wr)
    (fun wr => p.size - (intOf ((wr.cell? ⟨Z, 1, none⟩).getD undef)).toNat)
  case atStart => exact ⟨0, Nat.zero_le _, hR0, hJ0⟩
  case round =>
    obtain ⟨k, hk, hR, hJk⟩ := hrel
    have hk4 : 4 * k ≤ p.size := by unfold nwords at hk; omega
    have cL := Left_at hk4 hpl wr hR
    by_cases hlt : k < nwords p
    · have hlt4 : 4 * k + 4 ≤ p.size := by unfold nwords at hlt; omega
      gi_wp2_with (refine ⟨trivial, ?_⟩; gi_at_call 27; refine (callsIn_wide.2 cL).mono ?_; clear cL; rintro e w' ⟨rfl, g1, rfl⟩)
      have cU := U32_at hlt4 hpl (gr wr g1) (hR.gr g1)
      have hX : num p (4 * k) 4 = wordAt p k := rfl
      have hXl := num_lt p (4 * k) 4 hlt4
      rw [hX] at cU hXl
      clear hX
      obtain ⟨X, hX⟩ : ∃ X, wordAt p k = X := ⟨_, rfl⟩
      rw [hX] at cU hXl
      have HX := Lib.hid hX
      clear hX
      have hXl' : X < 4294967296 := hXl
      clear hXl
      gi_wp2_with (refine ⟨trivial, ?_⟩; gi_at_call 28; refine (callsIn_wide.2 cU).mono ?_; clear cU; rintro e w' ⟨rfl, g2, rfl⟩)
      obtain ⟨V2, hV2⟩ : ∃ V2, gr ((gr wr g1).setCell ⟨Z, 1, none⟩ (.int .i64 (4 * (k : Int) + 4))) g2 = V2 := ⟨_, rfl⟩
      have hb2 : Below W.heap.size wr V2 := by
        haveI := hR.old
        haveI : Upto W.heap.size wr := ⟨by have := hR.old.h; omega⟩
        rw [← hV2]
        exact belowGrU (Below.setCell (belowGrU (Below.refl _ _) _) hZ0 _) _
      have hR2 : Rd Z p (4 * (k + 1)) V2 := by
        haveI := hR.old
        rw [← hV2]
        exact ⟨inferInstance, by simp [go_sem, hR.c0], by simp [go_sem, hR.c1]; omega, by simp [go_sem, hR.fr]⟩
      have hJ2 := hJ _ _ _ hJk hb2
      obtain ⟨fn, tmps, assign, body, hy, hYR⟩ := hY 2 _ X V2 hJ2 ⟨_, rfl, by rw [← HX.out, ← wordsTo_succ]; exact wordsTo_pre p hlt⟩
      rw [hV2]
      clear hV2 hb2 hJ2
      rw [hy, Oper.uponIn_round]
      refine ⟨fun h => (by simp [Fence.wide] at h), ?_⟩
      refine hYR.mono ?_
      have HJ := Lib.hid hJ
      clear hJ
      rintro e W3 (⟨rfl, hJ3, hk3⟩ | ⟨rfl, hJx3⟩)
      · have hR3 := hR2.kept hk3 hZ0
        gi_wp2
        go_roundw
        case rel => exact ⟨k + 1, hlt, hR3, by rw [wordsTo_succ, HX.out]; exact hJ3⟩
        case measure =>
          rw [hR3.c1, hR.c1]
          simp [intOf]
          omega
      · gi_wp2
        refine bodyPost_ret (results_none rfl _ _ _) rfl ?_
        refine ⟨⟨_, rfl⟩, .inr ⟨_, _, rfl, ?_, hJx3⟩⟩
        rw [HP.out, ← HX.out, ← wordsTo_succ]
        exact wordsTo_pre p hlt
    · obtain rfl : k = nwords p := by omega
      have hz : 4 * nwords p = p.size := by unfold nwords; omega
      rw [hz] at cL
      gi_wp2_with (refine ⟨trivial, ?_⟩; gi_at_call 27; refine (callsIn_wide.2 cL).mono ?_; clear cL; rintro e w' ⟨rfl, g1, rfl⟩)
      go_end0
      refine ⟨⟨_, rfl⟩, .inl ⟨_, rfl, ?_⟩⟩
      rw [HP.out]
      exact hJ _ _ _ hJk (belowGr (Below.refl _ _) (by have := hR.old.h; omega) _)

@[go_sem] theorem eg_words1 (args : Array Value) (w : World) : (callFunc 26 args).run Try.prog w = .ok (.enter 26 args) w := enters_of Try.func26 (by kernel_rfl) rfl args w

/-- Words: lays the text in a block of its own, hands back the iterator -/
theorem Words_at (s : ByteArray) (w : World) :
    Calls Try.prog 19 #[.string s] w fun e w' => e = .returned (.func (.func 26) #[] #[.pointer (some ⟨w.heap.size, 0, none⟩)]) ∧ w' = w.alloc (.cells #[.string s] 9) := by
  go_enter Try.func19, Try.ntmps19
  go_wp2_with fail
  go_ret
  exact ⟨rfl, rfl⟩

end Go.Proofs.Ytnflakaphbjbhaa

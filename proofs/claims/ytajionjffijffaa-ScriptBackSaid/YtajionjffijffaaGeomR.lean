/-
  What geom.Right comes to (as in the seat of chapter 5). A measure is a slice of groups (two ints each) and a number of sectors.
-/
import Derived.Test.YtajionjffijffaaChecked
import Derived.Test.YtajionjffijffaaTail
import Derived.Test.YtajionjffijffaaOpen2
import Derived.Handy
namespace Go.Proofs.Ytajionjffijffaa
open Go.RowKit Go.ChangeShapes Go.WideShapes Go.Joins

/-- a slice of groups, and what its cells hold -/
structure Slc where
  ad : Option Addr
  blk : Nat
  off : Nat
  len : Nat
  cap : Nat
  x : Nat → Int
  y : Nat → Int

/-- .. in a world -/
class GM (s : Slc) (W : World) : Prop where
  addr : ∀ k, k < s.len → s.ad = some ⟨s.blk, s.off, none⟩
  old : ∀ k, k < s.len → s.blk < W.heap.size
  c0 : ∀ k, k < s.len → W.cell? ⟨s.blk, s.off + k * 2, none⟩ = some (.int .i64 (s.x k))
  c1 : ∀ k, k < s.len → W.cell? ⟨s.blk, s.off + k * 2 + 1, none⟩ = some (.int .i64 (s.y k))
instance gmAlloc (s : Slc) (W : World) (o : Obj) [k : GM s W] : GM s (W.alloc o) where
  addr := k.addr
  old := fun j hj => by have := k.old j hj; rw [World.size_alloc]; omega
  c0 := fun j hj => by haveI : Old s.blk W := ⟨k.old j hj⟩; rw [cell_past]; exact k.c0 j hj
  c1 := fun j hj => by haveI : Old s.blk W := ⟨k.old j hj⟩; rw [cell_past]; exact k.c1 j hj
instance gmGr (s : Slc) (W : World) (g : Gr) [k : GM s W] : GM s (gr W g) where
  addr := k.addr
  old := fun j hj => by have := k.old j hj; rw [gr_size]; omega
  c0 := fun j hj => by haveI : Old s.blk W := ⟨k.old j hj⟩; rw [cell_gr]; exact k.c0 j hj
  c1 := fun j hj => by haveI : Old s.blk W := ⟨k.old j hj⟩; rw [cell_gr]; exact k.c1 j hj
instance gmDrew (s : Slc) (W : World) [k : GM s W] : GM s W.drew := ⟨k.addr, k.old, k.c0, k.c1⟩
theorem GM.isOld {s : Slc} {W : World} {k : Nat} (m : GM s W) (h : k < s.len) : Old s.blk W := ⟨m.old k h⟩

/-- an element's address, in a slice of groups -/
theorem ix_grp {s : Slc} {W : World} {k : Nat} (m : GM s W) (hk : k < s.len) (W' : World) :
    (Instr.indexAt 23 (.slice s.ad s.len s.cap) (.int .i64 (k : Int))).run Try.prog W' = .ok (.pointer (some ⟨s.blk, s.off + k * 2, none⟩)) W' := by
  rw [m.addr k hk]
  simp [go_sem, hk]

/-- A call's contract, as a walk meets it. -/
theorem Calls.at {P : Program} {f : FuncId} {args : Array Value} {v : Value} {W : World} (h : Calls P f args W (Ret v W)) : Calls P f args W fun e w' => e = .returned v ∧ ∃ g : Gr, w' = gr W g :=
  h.mono fun _ _ ⟨he, hb⟩ => ⟨he, gr_of_below hb⟩
/-- .. in a world of the class of a region that is walked once -/
theorem Calls.inClass {P : Program} {f : FuncId} {args : Array Value} {v : Value} {W : World} {g : Gr} (h : Calls P f args (gr W g) (Ret v (gr W g))) : Calls P f args (gr W g) fun e w'' => e = .returned v ∧ ∃ p : Gr, w'' = gr W p :=
  h.mono fun _ _ ⟨he, hb⟩ => ⟨he, by obtain ⟨g', h'⟩ := gr_of_below hb; exact ⟨g.seq g', by rw [h', gr_gr]⟩⟩

/-! ### one group -/
def oneG (k w : Int) : Bool := decide (k = 0 ∧ 1 ≤ w ∧ w ≤ 8 ∨ k = 1 ∧ 3 ≤ w ∧ w ≤ 8)

theorem one_any (k v : Int) : Pure Try.prog 49 #[.agg #[.int .i64 k, .int .i64 v]] (.bool (oneG k v)) := by
  intro w
  by_cases h0 : k = 0
  · subst h0
    by_cases h1 : 1 ≤ v <;> by_cases h8 : v ≤ 8
    all_goals try (exfalso; omega)
    all_goals
      go_enter Try.func49, Try.ntmps49
      go_wp2
      go_ret
      exact Ret.mk (congrArg Value.bool (by unfold oneG; simp; omega)) (bel1' _ _)
  · have h0' : (k == 0) = false := by simp [h0]
    by_cases h2 : k = 1
    · subst h2
      by_cases h1 : 3 ≤ v <;> by_cases h8 : v ≤ 8
      all_goals try (exfalso; omega)
      all_goals
        go_enter Try.func49, Try.ntmps49
        go_wp2
        go_ret
        exact Ret.mk (congrArg Value.bool (by unfold oneG; simp; omega)) (bel1' _ _)
    · have h2' : (k == 1) = false := by simp [h2]
      have e := Lib.hid (show oneG k v = false by unfold oneG; simp; omega)
      clear h0 h2
      go_enter Try.func49, Try.ntmps49
      go_wp2
      go_ret
      exact Ret.mk (congrArg Value.bool (by rw [e.out])) (bel1' _ _)

theorem notOne_any (k v : Int) : Pure Try.prog 48 #[.agg #[.int .i64 k, .int .i64 v]] (.bool (!oneG k v)) := by
  intro w
  go_enter Try.func48, Try.ntmps48
  go_wp2_with (go_at_call 49; with_reducible refine ((one_any _ _).at _).mono ?_; rintro e w' ⟨rfl, g, rfl⟩)
  go_ret
  exact Ret.mk rfl (bel1 _ _ _)

/-! ### the search for a group that isn't right -/

/-- the first of the first n that is not right; -1: none -/
def badAt (s : Slc) : Nat → Int
  | 0 => -1
  | n + 1 => if 0 ≤ badAt s n then badAt s n else if oneG (s.x n) (s.y n) then -1 else n
def allOne (s : Slc) : Prop := ∀ k, k < s.len → oneG (s.x k) (s.y k) = true
theorem badAt_neg {s : Slc} {n : Nat} : badAt s n < 0 ↔ ∀ k, k < n → oneG (s.x k) (s.y k) = true := by
  induction n with
  | zero => simp [badAt]
  | succ n ih =>
    simp only [badAt]
    by_cases h : 0 ≤ badAt s n
    · rw [if_pos h]
      constructor
      · intro h2; omega
      · intro h2; exact ih.2 (fun k hk => h2 k (by omega))
    · rw [if_neg h]
      have hb := ih.1 (by omega)
      by_cases ho : oneG (s.x n) (s.y n) = true
      · rw [if_pos ho]
        refine ⟨fun _ k hk => ?_, fun _ => by omega⟩
        by_cases e : k = n
        · subst e; exact ho
        · exact hb k (by omega)
      · rw [if_neg ho]
        refine ⟨fun h3 => by omega, fun h3 => absurd (h3 n (by omega)) ho⟩

theorem badAt_first {s : Slc} {k n : Nat} (h : ∀ j, j < k → oneG (s.x j) (s.y j) = true) (hk : oneG (s.x k) (s.y k) = false) (hn : k < n) : badAt s n = k := by
  induction n with
  | zero => omega
  | succ n ih =>
    simp only [badAt]
    by_cases e : k = n
    · subst e
      have := badAt_neg.2 h
      rw [if_neg (by omega), if_neg (by simp [hk])]
    · have := ih (by omega)
      rw [this, if_pos (by omega)]

theorem badAt_none {s : Slc} {n : Nat} (h : ∀ j, j < n → oneG (s.x j) (s.y j) = true) : badAt s n = -1 := by
  induction n with
  | zero => rfl
  | succ n ih =>
    simp only [badAt]
    rw [ih (fun j hj => h j (by omega))]
    simp [h n (by omega)]

set_option maxHeartbeats 1000000 in
theorem index_any (s : Slc) (w : World) [m : GM s w] (hs : s.len ≤ 9223372036854775807) :
    Calls Try.prog 56 #[.slice s.ad s.len s.cap, .func (.func 48) #[] #[]] w (Ret (.int .i64 (badAt s s.len)) w) := by
  go_enter Try.func56, Try.ntmps56
  go_wp2_with fail
  go_loopw [8] (fun i wr => ∃ k : Nat, k ≤ s.len ∧ i = .int .i64 k ∧ (∀ j, j < k → oneG (s.x j) (s.y j) = true) ∧ ∃ g' : Gr, wr = gr w g')
    (fun i _ => s.len - (intOf i).toNat)
  case atStart => exact ⟨0, Nat.zero_le _, rfl, fun j hj => by omega, ex_gr _⟩
  case round =>
    obtain ⟨k, hk, rfl, hall, g', rfl⟩ := hrel
    have Hall := Lib.hid hall
    clear hall
    by_cases hlt : k < s.len
    · have hcx := m.c0 k hlt
      have hcy := m.c1 k hlt
      have hix := ix_grp m hlt
      haveI hbo := m.isOld hlt
      have c := notOne_any (s.x k) (s.y k)
      cases ho : oneG (s.x k) (s.y k)
      · have e := Lib.hid (badAt_first Hall.out ho hlt)
        rw [ho] at c
        clear ho
        go_wp2_with (go_at_call 48; with_reducible refine (c.at _).mono ?_; rintro e w' ⟨rfl, g, rfl⟩)
        go_ret
        exact Ret.mk (by rw [e.out]; rfl) (by (repeat' (first | (with_reducible exact Below.refl _ _) | (with_reducible refine belowGrU ?_ _) | (with_reducible refine belowAlloc ?_ _) | (with_reducible refine Below.setCell ?_ ?_ _) | (with_reducible refine Below.drew ?_) | (simp [go_sem]; done) | (simp [go_sem]; omega))))
      · have Ho := Lib.hid ho
        rw [ho] at c
        clear ho
        go_wp2_with (go_at_call 48; with_reducible refine (c.at _).mono ?_; rintro e w' ⟨rfl, g, rfl⟩)
        go_roundw
        case rel => exact ⟨k + 1, by omega, by go_num, fun j hj => (by
          by_cases e : j = k
          · subst e; exact Ho.out
          · exact Hall.out j (by omega)), _, rfl⟩
        case measure => simp [intOf]; omega
    · obtain rfl : s.len = k := by omega
      have e := Lib.hid (badAt_none Hall.out)
      go_wp2_with fail
      go_ret
      exact Ret.mk (by rw [e.out]; rfl) (by (repeat' (first | (with_reducible exact Below.refl _ _) | (with_reducible refine belowGrU ?_ _) | (with_reducible refine belowAlloc ?_ _) | (with_reducible refine Below.setCell ?_ ?_ _) | (with_reducible refine Below.drew ?_) | (simp [go_sem]; done) | (simp [go_sem]; omega))))

theorem contains_any (s : Slc) (w : World) [m : GM s w] (hs : s.len ≤ 9223372036854775807) :
    Calls Try.prog 47 #[.slice s.ad s.len s.cap, .func (.func 48) #[] #[]] w (Ret (.bool (decide (0 ≤ badAt s s.len))) w) := by
  go_enter Try.func47, Try.ntmps47
  go_wp2_with (go_at_call 56; with_reducible refine (Calls.at (index_any s _ hs)).mono ?_; rintro e w' ⟨rfl, g, rfl⟩)
  go_ret
  exact Ret.mk rfl (by (repeat' (first | (with_reducible exact Below.refl _ _) | (with_reducible refine belowGrU ?_ _) | (with_reducible refine belowAlloc ?_ _) | (with_reducible refine Below.setCell ?_ ?_ _) | (with_reducible refine Below.drew ?_) | (simp [go_sem]; done) | (simp [go_sem]; omega))))

/-- a right measure -/
def goodG (s : Slc) (secs : Int) : Prop := 1 ≤ s.len ∧ s.len ≤ 4 ∧ 24 ≤ secs ∧ secs ≤ 4096 ∧ allOne s

theorem right_yes {s : Slc} {secs : Int} (h : goodG s secs) (w : World) [m : GM s w] :
    Calls Try.prog 35 #[.agg #[.slice s.ad s.len s.cap, .int .i64 secs]] w (Ret (.bool true) w) := by
  obtain ⟨h1, h2, h3, h4, h5⟩ := h
  have hb : decide (0 ≤ badAt s s.len) = false := by simp; exact badAt_neg.2 h5
  have hc := fun (w : World) [GM s w] => contains_any s w (by omega)
  rw [hb] at hc
  have Hc := Lib.hid hc
  clear hc hb h5
  go_enter Try.func35, Try.ntmps35
  go_wp2_with (go_at_call 47; with_reducible refine (Calls.at (Hc.out _)).mono ?_; rintro e w' ⟨rfl, g, rfl⟩)
  go_ret
  exact Ret.mk rfl (by (repeat' (first | (with_reducible exact Below.refl _ _) | (with_reducible refine belowGrU ?_ _) | (with_reducible refine belowAlloc ?_ _) | (with_reducible refine Below.setCell ?_ ?_ _) | (with_reducible refine Below.drew ?_) | (simp [go_sem]; done) | (simp [go_sem]; omega))))

theorem right_no {s : Slc} {secs : Int} (h : ¬ goodG s secs) (hs : s.len ≤ 9223372036854775807) (w : World) [m : GM s w] :
    Calls Try.prog 35 #[.agg #[.slice s.ad s.len s.cap, .int .i64 secs]] w (Ret (.bool false) w) := by
  by_cases h1 : 1 ≤ s.len
  · by_cases h2 : s.len ≤ 4
    · by_cases h3 : 24 ≤ secs
      · by_cases h4 : secs ≤ 4096
        · have hb : decide (0 ≤ badAt s s.len) = true := by
            simp only [decide_eq_true_eq]
            refine Int.not_lt.1 fun hn => h ⟨h1, h2, h3, h4, badAt_neg.1 hn⟩
          have hc := fun (w : World) [GM s w] => contains_any s w (by omega)
          rw [hb] at hc
          have Hc := Lib.hid hc
          clear hc hb h
          go_enter Try.func35, Try.ntmps35
          go_wp2_with (go_at_call 47; with_reducible refine (Calls.at (Hc.out _)).mono ?_; rintro e w' ⟨rfl, g, rfl⟩)
          go_ret
          exact Ret.mk rfl (by (repeat' (first | (with_reducible exact Below.refl _ _) | (with_reducible refine belowGrU ?_ _) | (with_reducible refine belowAlloc ?_ _) | (with_reducible refine Below.setCell ?_ ?_ _) | (with_reducible refine Below.drew ?_) | (simp [go_sem]; done) | (simp [go_sem]; omega))))
        · clear h
          go_enter Try.func35, Try.ntmps35
          go_wp2_with fail
          go_ret
          exact Ret.mk rfl (by (repeat' (first | (with_reducible exact Below.refl _ _) | (with_reducible refine belowGrU ?_ _) | (with_reducible refine belowAlloc ?_ _) | (with_reducible refine Below.setCell ?_ ?_ _) | (with_reducible refine Below.drew ?_) | (simp [go_sem]; done) | (simp [go_sem]; omega))))
      · clear h
        go_enter Try.func35, Try.ntmps35
        go_wp2_with fail
        go_ret
        exact Ret.mk rfl (by (repeat' (first | (with_reducible exact Below.refl _ _) | (with_reducible refine belowGrU ?_ _) | (with_reducible refine belowAlloc ?_ _) | (with_reducible refine Below.setCell ?_ ?_ _) | (with_reducible refine Below.drew ?_) | (simp [go_sem]; done) | (simp [go_sem]; omega))))
    · clear h
      go_enter Try.func35, Try.ntmps35
      go_wp2_with fail
      go_ret
      exact Ret.mk rfl (by (repeat' (first | (with_reducible exact Below.refl _ _) | (with_reducible refine belowGrU ?_ _) | (with_reducible refine belowAlloc ?_ _) | (with_reducible refine Below.setCell ?_ ?_ _) | (with_reducible refine Below.drew ?_) | (simp [go_sem]; done) | (simp [go_sem]; omega))))
  · clear h
    go_enter Try.func35, Try.ntmps35
    go_wp2_with fail
    go_ret
    exact Ret.mk rfl (by (repeat' (first | (with_reducible exact Below.refl _ _) | (with_reducible refine belowGrU ?_ _) | (with_reducible refine belowAlloc ?_ _) | (with_reducible refine Below.setCell ?_ ?_ _) | (with_reducible refine Below.drew ?_) | (simp [go_sem]; done) | (simp [go_sem]; omega))))

end Go.Proofs.Ytajionjffijffaa

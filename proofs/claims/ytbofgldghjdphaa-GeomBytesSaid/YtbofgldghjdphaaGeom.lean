/-
  What the functions of package geom come to. A measure is a slice of groups (two ints each) and a number of sectors.
-/
import Derived.Test.YtbofgldghjdphaaChecked
import Derived.Test.YtbofgldghjdphaaTail
import Derived.Test.YtbofgldghjdphaaOpen2
import Derived.Handy
namespace Go.Proofs.Ytbofgldghjdphaa
open Go.RowKit Go.ChangeShapes Go.WideShapes Go.Joins

/-- a slice of groups, and what its cells hold -/
structure Slc where
  ad : Option Addr
  blk : Nat
  off : Nat
  len : Nat
  cap : Nat
  x : Nat → Int
  y : Nat → Int

/-- .. in a world -/
class GM (s : Slc) (W : World) : Prop where
  addr : ∀ k, k < s.len → s.ad = some ⟨s.blk, s.off, none⟩
  old : ∀ k, k < s.len → s.blk < W.heap.size
  c0 : ∀ k, k < s.len → W.cell? ⟨s.blk, s.off + k * 2, none⟩ = some (.int .i64 (s.x k))
  c1 : ∀ k, k < s.len → W.cell? ⟨s.blk, s.off + k * 2 + 1, none⟩ = some (.int .i64 (s.y k))
instance gmAlloc (s : Slc) (W : World) (o : Obj) [k : GM s W] : GM s (W.alloc o) where
  addr := k.addr
  old := fun j hj => by have := k.old j hj; rw [World.size_alloc]; omega
  c0 := fun j hj => by haveI : Old s.blk W := ⟨k.old j hj⟩; rw [cell_past]; exact k.c0 j hj
  c1 := fun j hj => by haveI : Old s.blk W := ⟨k.old j hj⟩; rw [cell_past]; exact k.c1 j hj
instance gmGr (s : Slc) (W : World) (g : Gr) [k : GM s W] : GM s (gr W g) where
  addr := k.addr
  old := fun j hj => by have := k.old j hj; rw [gr_size]; omega
  c0 := fun j hj => by haveI : Old s.blk W := ⟨k.old j hj⟩; rw [cell_gr]; exact k.c0 j hj
  c1 := fun j hj => by haveI : Old s.blk W := ⟨k.old j hj⟩; rw [cell_gr]; exact k.c1 j hj
instance gmDrew (s : Slc) (W : World) [k : GM s W] : GM s W.drew := ⟨k.addr, k.old, k.c0, k.c1⟩
theorem GM.isOld {s : Slc} {W : World} {k : Nat} (m : GM s W) (h : k < s.len) : Old s.blk W := ⟨m.old k h⟩

/-- an element's address, in a slice of groups -/
theorem ix_grp {s : Slc} {W : World} {k : Nat} (m : GM s W) (hk : k < s.len) (W' : World) :
    (Instr.indexAt 22 (.slice s.ad s.len s.cap) (.int .i64 (k : Int))).run Try.prog W' = .ok (.pointer (some ⟨s.blk, s.off + k * 2, none⟩)) W' := by
  rw [m.addr k hk]
  simp [go_sem, hk]

/-- A call's contract, as a walk meets it. -/
theorem Calls.at {P : Program} {f : FuncId} {args : Array Value} {v : Value} {W : World} (h : Calls P f args W (Ret v W)) : Calls P f args W fun e w' => e = .returned v ∧ ∃ g : Gr, w' = gr W g :=
  h.mono fun _ _ ⟨he, hb⟩ => ⟨he, gr_of_below hb⟩
/-- .. in a world of the class of a region that is walked once -/
theorem Calls.inClass {P : Program} {f : FuncId} {args : Array Value} {v : Value} {W : World} {g : Gr} (h : Calls P f args (gr W g) (Ret v (gr W g))) : Calls P f args (gr W g) fun e w'' => e = .returned v ∧ ∃ p : Gr, w'' = gr W p :=
  h.mono fun _ _ ⟨he, hb⟩ => ⟨he, by obtain ⟨g', h'⟩ := gr_of_below hb; exact ⟨g.seq g', by rw [h', gr_gr]⟩⟩

/-! ### one group -/
def oneG (k w : Int) : Bool := decide (k = 0 ∧ 1 ≤ w ∧ w ≤ 8 ∨ k = 1 ∧ 3 ≤ w ∧ w ≤ 8)

theorem one_any (k v : Int) : Pure Try.prog 19 #[.agg #[.int .i64 k, .int .i64 v]] (.bool (oneG k v)) := by
  intro w
  by_cases h0 : k = 0
  · subst h0
    by_cases h1 : 1 ≤ v <;> by_cases h8 : v ≤ 8
    all_goals try (exfalso; omega)
    all_goals
      go_enter Try.func19, Try.ntmps19
      go_wp2
      go_ret
      exact Ret.mk (congrArg Value.bool (by unfold oneG; simp; omega)) (bel1' _ _)
  · have h0' : (k == 0) = false := by simp [h0]
    by_cases h2 : k = 1
    · subst h2
      by_cases h1 : 3 ≤ v <;> by_cases h8 : v ≤ 8
      all_goals try (exfalso; omega)
      all_goals
        go_enter Try.func19, Try.ntmps19
        go_wp2
        go_ret
        exact Ret.mk (congrArg Value.bool (by unfold oneG; simp; omega)) (bel1' _ _)
    · have h2' : (k == 1) = false := by simp [h2]
      have e := Lib.hid (show oneG k v = false by unfold oneG; simp; omega)
      clear h0 h2
      go_enter Try.func19, Try.ntmps19
      go_wp2
      go_ret
      exact Ret.mk (congrArg Value.bool (by rw [e.out])) (bel1' _ _)

theorem notOne_any (k v : Int) : Pure Try.prog 18 #[.agg #[.int .i64 k, .int .i64 v]] (.bool (!oneG k v)) := by
  intro w
  go_enter Try.func18, Try.ntmps18
  go_wp2_with (go_at_call 19; with_reducible refine ((one_any _ _).at _).mono ?_; rintro e w' ⟨rfl, g, rfl⟩)
  go_ret
  exact Ret.mk rfl (bel1 _ _ _)

/-! ### the search for a group that isn't right -/

/-- the first of the first n that is not right; -1: none -/
def badAt (s : Slc) : Nat → Int
  | 0 => -1
  | n + 1 => if 0 ≤ badAt s n then badAt s n else if oneG (s.x n) (s.y n) then -1 else n
def allOne (s : Slc) : Prop := ∀ k, k < s.len → oneG (s.x k) (s.y k) = true
theorem badAt_neg {s : Slc} {n : Nat} : badAt s n < 0 ↔ ∀ k, k < n → oneG (s.x k) (s.y k) = true := by
  induction n with
  | zero => simp [badAt]
  | succ n ih =>
    simp only [badAt]
    by_cases h : 0 ≤ badAt s n
    · rw [if_pos h]
      constructor
      · intro h2; omega
      · intro h2; exact ih.2 (fun k hk => h2 k (by omega))
    · rw [if_neg h]
      have hb := ih.1 (by omega)
      by_cases ho : oneG (s.x n) (s.y n) = true
      · rw [if_pos ho]
        refine ⟨fun _ k hk => ?_, fun _ => by omega⟩
        by_cases e : k = n
        · subst e; exact ho
        · exact hb k (by omega)
      · rw [if_neg ho]
        refine ⟨fun h3 => by omega, fun h3 => absurd (h3 n (by omega)) ho⟩

theorem badAt_first {s : Slc} {k n : Nat} (h : ∀ j, j < k → oneG (s.x j) (s.y j) = true) (hk : oneG (s.x k) (s.y k) = false) (hn : k < n) : badAt s n = k := by
  induction n with
  | zero => omega
  | succ n ih =>
    simp only [badAt]
    by_cases e : k = n
    · subst e
      have := badAt_neg.2 h
      rw [if_neg (by omega), if_neg (by simp [hk])]
    · have := ih (by omega)
      rw [this, if_pos (by omega)]

theorem badAt_none {s : Slc} {n : Nat} (h : ∀ j, j < n → oneG (s.x j) (s.y j) = true) : badAt s n = -1 := by
  induction n with
  | zero => rfl
  | succ n ih =>
    simp only [badAt]
    rw [ih (fun j hj => h j (by omega))]
    simp [h n (by omega)]

set_option maxHeartbeats 1000000 in
theorem index_any (s : Slc) (w : World) [m : GM s w] (hs : s.len ≤ 9223372036854775807) :
    Calls Try.prog 21 #[.slice s.ad s.len s.cap, .func (.func 18) #[] #[]] w (Ret (.int .i64 (badAt s s.len)) w) := by
  go_enter Try.func21, Try.ntmps21
  go_wp2_with fail
  go_loopw [8] (fun i wr => ∃ k : Nat, k ≤ s.len ∧ i = .int .i64 k ∧ (∀ j, j < k → oneG (s.x j) (s.y j) = true) ∧ ∃ g' : Gr, wr = gr w g')
    (fun i _ => s.len - (intOf i).toNat)
  case atStart => exact ⟨0, Nat.zero_le _, rfl, fun j hj => by omega, ex_gr _⟩
  case round =>
    obtain ⟨k, hk, rfl, hall, g', rfl⟩ := hrel
    have Hall := Lib.hid hall
    clear hall
    by_cases hlt : k < s.len
    · have hcx := m.c0 k hlt
      have hcy := m.c1 k hlt
      have hix := ix_grp m hlt
      haveI hbo := m.isOld hlt
      have c := notOne_any (s.x k) (s.y k)
      cases ho : oneG (s.x k) (s.y k)
      · have e := Lib.hid (badAt_first Hall.out ho hlt)
        rw [ho] at c
        clear ho
        go_wp2_with (go_at_call 18; with_reducible refine (c.at _).mono ?_; rintro e w' ⟨rfl, g, rfl⟩)
        go_ret
        exact Ret.mk (by rw [e.out]; rfl) (by (repeat' (first | (with_reducible exact Below.refl _ _) | (with_reducible refine belowGrU ?_ _) | (with_reducible refine belowAlloc ?_ _) | (with_reducible refine Below.setCell ?_ ?_ _) | (with_reducible refine Below.drew ?_) | (simp [go_sem]; done) | (simp [go_sem]; omega))))
      · have Ho := Lib.hid ho
        rw [ho] at c
        clear ho
        go_wp2_with (go_at_call 18; with_reducible refine (c.at _).mono ?_; rintro e w' ⟨rfl, g, rfl⟩)
        go_roundw
        case rel => exact ⟨k + 1, by omega, by go_num, fun j hj => (by
          by_cases e : j = k
          · subst e; exact Ho.out
          · exact Hall.out j (by omega)), _, rfl⟩
        case measure => simp [intOf]; omega
    · obtain rfl : s.len = k := by omega
      have e := Lib.hid (badAt_none Hall.out)
      go_wp2_with fail
      go_ret
      exact Ret.mk (by rw [e.out]; rfl) (by (repeat' (first | (with_reducible exact Below.refl _ _) | (with_reducible refine belowGrU ?_ _) | (with_reducible refine belowAlloc ?_ _) | (with_reducible refine Below.setCell ?_ ?_ _) | (with_reducible refine Below.drew ?_) | (simp [go_sem]; done) | (simp [go_sem]; omega))))

theorem contains_any (s : Slc) (w : World) [m : GM s w] (hs : s.len ≤ 9223372036854775807) :
    Calls Try.prog 17 #[.slice s.ad s.len s.cap, .func (.func 18) #[] #[]] w (Ret (.bool (decide (0 ≤ badAt s s.len))) w) := by
  go_enter Try.func17, Try.ntmps17
  go_wp2_with (go_at_call 21; with_reducible refine (Calls.at (index_any s _ hs)).mono ?_; rintro e w' ⟨rfl, g, rfl⟩)
  go_ret
  exact Ret.mk rfl (by (repeat' (first | (with_reducible exact Below.refl _ _) | (with_reducible refine belowGrU ?_ _) | (with_reducible refine belowAlloc ?_ _) | (with_reducible refine Below.setCell ?_ ?_ _) | (with_reducible refine Below.drew ?_) | (simp [go_sem]; done) | (simp [go_sem]; omega))))

/-- a right measure -/
def goodG (s : Slc) (secs : Int) : Prop := 1 ≤ s.len ∧ s.len ≤ 4 ∧ 24 ≤ secs ∧ secs ≤ 4096 ∧ allOne s

theorem right_yes {s : Slc} {secs : Int} (h : goodG s secs) (w : World) [m : GM s w] :
    Calls Try.prog 10 #[.agg #[.slice s.ad s.len s.cap, .int .i64 secs]] w (Ret (.bool true) w) := by
  obtain ⟨h1, h2, h3, h4, h5⟩ := h
  have hb : decide (0 ≤ badAt s s.len) = false := by simp; exact badAt_neg.2 h5
  have hc := fun (w : World) [GM s w] => contains_any s w (by omega)
  rw [hb] at hc
  have Hc := Lib.hid hc
  clear hc hb h5
  go_enter Try.func10, Try.ntmps10
  go_wp2_with (go_at_call 17; with_reducible refine (Calls.at (Hc.out _)).mono ?_; rintro e w' ⟨rfl, g, rfl⟩)
  go_ret
  exact Ret.mk rfl (by (repeat' (first | (with_reducible exact Below.refl _ _) | (with_reducible refine belowGrU ?_ _) | (with_reducible refine belowAlloc ?_ _) | (with_reducible refine Below.setCell ?_ ?_ _) | (with_reducible refine Below.drew ?_) | (simp [go_sem]; done) | (simp [go_sem]; omega))))

theorem right_no {s : Slc} {secs : Int} (h : ¬ goodG s secs) (hs : s.len ≤ 9223372036854775807) (w : World) [m : GM s w] :
    Calls Try.prog 10 #[.agg #[.slice s.ad s.len s.cap, .int .i64 secs]] w (Ret (.bool false) w) := by
  by_cases h1 : 1 ≤ s.len
  · by_cases h2 : s.len ≤ 4
    · by_cases h3 : 24 ≤ secs
      · by_cases h4 : secs ≤ 4096
        · have hb : decide (0 ≤ badAt s s.len) = true := by
            simp only [decide_eq_true_eq]
            refine Int.not_lt.1 fun hn => h ⟨h1, h2, h3, h4, badAt_neg.1 hn⟩
          have hc := fun (w : World) [GM s w] => contains_any s w (by omega)
          rw [hb] at hc
          have Hc := Lib.hid hc
          clear hc hb h
          go_enter Try.func10, Try.ntmps10
          go_wp2_with (go_at_call 17; with_reducible refine (Calls.at (Hc.out _)).mono ?_; rintro e w' ⟨rfl, g, rfl⟩)
          go_ret
          exact Ret.mk rfl (by (repeat' (first | (with_reducible exact Below.refl _ _) | (with_reducible refine belowGrU ?_ _) | (with_reducible refine belowAlloc ?_ _) | (with_reducible refine Below.setCell ?_ ?_ _) | (with_reducible refine Below.drew ?_) | (simp [go_sem]; done) | (simp [go_sem]; omega))))
        · clear h
          go_enter Try.func10, Try.ntmps10
          go_wp2_with fail
          go_ret
          exact Ret.mk rfl (by (repeat' (first | (with_reducible exact Below.refl _ _) | (with_reducible refine belowGrU ?_ _) | (with_reducible refine belowAlloc ?_ _) | (with_reducible refine Below.setCell ?_ ?_ _) | (with_reducible refine Below.drew ?_) | (simp [go_sem]; done) | (simp [go_sem]; omega))))
      · clear h
        go_enter Try.func10, Try.ntmps10
        go_wp2_with fail
        go_ret
        exact Ret.mk rfl (by (repeat' (first | (with_reducible exact Below.refl _ _) | (with_reducible refine belowGrU ?_ _) | (with_reducible refine belowAlloc ?_ _) | (with_reducible refine Below.setCell ?_ ?_ _) | (with_reducible refine Below.drew ?_) | (simp [go_sem]; done) | (simp [go_sem]; omega))))
    · clear h
      go_enter Try.func10, Try.ntmps10
      go_wp2_with fail
      go_ret
      exact Ret.mk rfl (by (repeat' (first | (with_reducible exact Below.refl _ _) | (with_reducible refine belowGrU ?_ _) | (with_reducible refine belowAlloc ?_ _) | (with_reducible refine Below.setCell ?_ ?_ _) | (with_reducible refine Below.drew ?_) | (simp [go_sem]; done) | (simp [go_sem]; omega))))
  · clear h
    go_enter Try.func10, Try.ntmps10
    go_wp2_with fail
    go_ret
    exact Ret.mk rfl (by (repeat' (first | (with_reducible exact Below.refl _ _) | (with_reducible refine belowGrU ?_ _) | (with_reducible refine belowAlloc ?_ _) | (with_reducible refine Below.setCell ?_ ?_ _) | (with_reducible refine Below.drew ?_) | (simp [go_sem]; done) | (simp [go_sem]; omega))))

/-! ### the measure's devices, rooms -/
theorem has_grp {s : Slc} {secs : Int} {k : Nat} (h : goodG s secs) (hk : k < s.len) (w : World) [m : GM s w] :
    Calls Try.prog 16 #[.agg #[.slice s.ad s.len s.cap, .int .i64 secs], .int .i64 (k : Int)] w (Ret (.bool true) w) := by
  have HR := Lib.hid (fun (w : World) [GM s w] => right_yes h w)
  have hl := h.2.1
  clear h
  go_enter Try.func16, Try.ntmps16
  go_wp2_with (go_at_call 10; with_reducible refine (Calls.at (HR.out _)).mono ?_; rintro e w' ⟨rfl, g, rfl⟩)
  go_ret
  exact Ret.mk rfl (by (repeat' (first | (with_reducible exact Below.refl _ _) | (with_reducible refine belowGrU ?_ _) | (with_reducible refine belowAlloc ?_ _) | (with_reducible refine Below.setCell ?_ ?_ _) | (with_reducible refine Below.drew ?_) | (simp [go_sem]; done) | (simp [go_sem]; omega))))
theorem hasnt_grp {s : Slc} {secs n : Int} (h : ¬ (goodG s secs ∧ 0 ≤ n ∧ n < s.len)) (hs : s.len ≤ 9223372036854775807) (w : World) [m : GM s w] :
    Calls Try.prog 16 #[.agg #[.slice s.ad s.len s.cap, .int .i64 secs], .int .i64 n] w (Ret (.bool false) w) := by
  by_cases hg : goodG s secs
  · have HR := Lib.hid (fun (w : World) [GM s w] => right_yes hg w)
    have hl := hg.2.1
    by_cases h0 : 0 ≤ n
    · have h1 : ¬ n < s.len := fun h1 => h ⟨hg, h0, h1⟩
      clear h hg
      go_enter Try.func16, Try.ntmps16
      go_wp2_with (go_at_call 10; with_reducible refine (Calls.at (HR.out _)).mono ?_; rintro e w' ⟨rfl, g, rfl⟩)
      go_ret
      exact Ret.mk (congrArg Value.bool (by simp; try omega)) (by (repeat' (first | (with_reducible exact Below.refl _ _) | (with_reducible refine belowGrU ?_ _) | (with_reducible refine belowAlloc ?_ _) | (with_reducible refine Below.setCell ?_ ?_ _) | (with_reducible refine Below.drew ?_) | (simp [go_sem]; done) | (simp [go_sem]; omega))))
    · clear h hg
      go_enter Try.func16, Try.ntmps16
      go_wp2_with (go_at_call 10; with_reducible refine (Calls.at (HR.out _)).mono ?_; rintro e w' ⟨rfl, g, rfl⟩)
      go_ret
      exact Ret.mk rfl (by (repeat' (first | (with_reducible exact Below.refl _ _) | (with_reducible refine belowGrU ?_ _) | (with_reducible refine belowAlloc ?_ _) | (with_reducible refine Below.setCell ?_ ?_ _) | (with_reducible refine Below.drew ?_) | (simp [go_sem]; done) | (simp [go_sem]; omega))))
  · have HR := Lib.hid (fun (w : World) [GM s w] => right_no hg hs w)
    clear h hg
    go_enter Try.func16, Try.ntmps16
    go_wp2_with (go_at_call 10; with_reducible refine (Calls.at (HR.out _)).mono ?_; rintro e w' ⟨rfl, g, rfl⟩)
    go_ret
    exact Ret.mk rfl (by (repeat' (first | (with_reducible exact Below.refl _ _) | (with_reducible refine belowGrU ?_ _) | (with_reducible refine belowAlloc ?_ _) | (with_reducible refine Below.setCell ?_ ?_ _) | (with_reducible refine Below.drew ?_) | (simp [go_sem]; done) | (simp [go_sem]; omega))))

/-- so many devices have the first k groups -/
def sumW (s : Slc) : Nat → Int
  | 0 => 0
  | k + 1 => sumW s k + s.y k
theorem wide_of {s : Slc} {secs : Int} (h : goodG s secs) {k : Nat} (hk : k < s.len) : 1 ≤ s.y k ∧ s.y k ≤ 8 ∧ (s.x k = 0 ∨ s.x k = 1 ∧ 3 ≤ s.y k) := by
  have := h.2.2.2.2 k hk
  unfold oneG at this
  simp only [decide_eq_true_eq] at this
  omega
theorem sumW_le {s : Slc} {secs : Int} (h : goodG s secs) : ∀ k, k ≤ s.len → (k : Int) ≤ sumW s k ∧ sumW s k ≤ 8 * k
  | 0, _ => by simp [sumW]
  | k + 1, hk => by
    have ih := sumW_le h k (by omega)
    have := wide_of h (k := k) (by omega)
    simp only [sumW]
    omega
theorem sumW_mono {s : Slc} {secs : Int} (h : goodG s secs) {j : Nat} : ∀ k, j ≤ k → k ≤ s.len → sumW s j ≤ sumW s k
  | 0, hj, _ => by obtain rfl : j = 0 := by omega
                   exact Int.le_refl _
  | k + 1, hj, hk => by
    by_cases e : j = k + 1
    · subst e; exact Int.le_refl _
    · have ih := sumW_mono (j := j) h k (by omega) (by omega)
      have := wide_of h (k := k) (by omega)
      simp only [sumW]
      omega

set_option maxHeartbeats 1000000 in
theorem devs_yes {s : Slc} {secs : Int} (h : goodG s secs) (w : World) [m : GM s w] :
    Calls Try.prog 13 #[.agg #[.slice s.ad s.len s.cap, .int .i64 secs]] w (Ret (.int .i64 (sumW s s.len)) w) := by
  have HR := Lib.hid (fun (w : World) [GM s w] => right_yes h w)
  have hl := h.2.1
  have HG := Lib.hid h
  clear h
  go_enter Try.func13, Try.ntmps13
  go_wp2_with (go_at_call 10; with_reducible refine (Calls.at (HR.out _)).mono ?_; rintro e w' ⟨rfl, g, rfl⟩)
  go_loopw [3, 12] (fun n i wr => ∃ k : Nat, k ≤ s.len ∧ i = .int .i64 k ∧ n = .int .i64 (sumW s k) ∧ ∃ g' : Gr, wr = gr (w.alloc (.cells #[.slice s.ad s.len s.cap, .int .i64 secs] 24)) g')
    (fun _ i _ => s.len - (intOf i).toNat)
  case atStart => exact ⟨0, Nat.zero_le _, rfl, rfl, _, rfl⟩
  case round =>
    obtain ⟨k, hk, rfl, rfl, g', rfl⟩ := hrel
    have hb := sumW_le HG.out k hk
    by_cases hlt : k < s.len
    · have hcx := m.c0 k hlt
      have hcy := m.c1 k hlt
      have hix := ix_grp m hlt
      haveI hbo := m.isOld hlt
      have hw := wide_of HG.out hlt
      go_wp2_with fail
      go_roundw
      case rel => exact ⟨k + 1, by omega, by go_num, rfl, ex_gr_alloc' _ _ _⟩
      case measure => simp [intOf]; omega
    · obtain rfl : s.len = k := by omega
      go_wp2_with fail
      go_ret
      exact Ret.mk rfl (by (repeat' (first | (with_reducible exact Below.refl _ _) | (with_reducible refine belowGrU ?_ _) | (with_reducible refine belowAlloc ?_ _) | (with_reducible refine Below.setCell ?_ ?_ _) | (with_reducible refine Below.drew ?_) | (simp [go_sem]; done) | (simp [go_sem]; omega))))
theorem devs_no {s : Slc} {secs : Int} (h : ¬ goodG s secs) (hs : s.len ≤ 9223372036854775807) (w : World) [m : GM s w] :
    Calls Try.prog 13 #[.agg #[.slice s.ad s.len s.cap, .int .i64 secs]] w (Ret (.int .i64 0) w) := by
  have HR := Lib.hid (fun (w : World) [GM s w] => right_no h hs w)
  clear h
  go_enter Try.func13, Try.ntmps13
  go_wp2_with (go_at_call 10; with_reducible refine (Calls.at (HR.out _)).mono ?_; rintro e w' ⟨rfl, g, rfl⟩)
  go_ret
  exact Ret.mk rfl (by (repeat' (first | (with_reducible exact Below.refl _ _) | (with_reducible refine belowGrU ?_ _) | (with_reducible refine belowAlloc ?_ _) | (with_reducible refine Below.setCell ?_ ?_ _) | (with_reducible refine Below.drew ?_) | (simp [go_sem]; done) | (simp [go_sem]; omega))))

set_option maxHeartbeats 1000000 in
theorem first_yes {s : Slc} {secs : Int} {n : Nat} (h : goodG s secs) (hn : n < s.len) (w : World) [m : GM s w] :
    Calls Try.prog 12 #[.agg #[.slice s.ad s.len s.cap, .int .i64 secs], .int .i64 (n : Int)] w (Ret (.int .i64 (sumW s n)) w) := by
  have HH := Lib.hid (fun (w : World) [GM s w] => has_grp h hn w)
  have hl := h.2.1
  have HG := Lib.hid h
  clear h
  go_enter Try.func12, Try.ntmps12
  go_wp2_with (go_at_call 16; with_reducible refine (Calls.at (HH.out _)).mono ?_; rintro e w' ⟨rfl, g, rfl⟩)
  go_loopw [5, 12] (fun v i wr => ∃ k : Nat, k ≤ n ∧ i = .int .i64 k ∧ v = .int .i64 (sumW s k) ∧ ∃ g' : Gr, wr = gr (w.alloc (.cells #[.slice s.ad s.len s.cap, .int .i64 secs] 24)) g')
    (fun _ i _ => n - (intOf i).toNat)
  case atStart => exact ⟨0, Nat.zero_le _, rfl, rfl, _, rfl⟩
  case round =>
    obtain ⟨k, hk, rfl, rfl, g', rfl⟩ := hrel
    have hb := sumW_le HG.out k (by omega)
    by_cases hlt : k < n
    · have hlt' : k < s.len := by omega
      have hcx := m.c0 k hlt'
      have hcy := m.c1 k hlt'
      have hix := ix_grp m hlt'
      haveI hbo := m.isOld hlt'
      have hw := wide_of HG.out hlt'
      go_wp2_with fail
      go_roundw
      case rel => exact ⟨k + 1, by omega, by go_num, rfl, _, rfl⟩
      case measure => simp [intOf]; omega
    · obtain rfl : n = k := by omega
      go_wp2_with fail
      go_ret
      exact Ret.mk rfl (by (repeat' (first | (with_reducible exact Below.refl _ _) | (with_reducible refine belowGrU ?_ _) | (with_reducible refine belowAlloc ?_ _) | (with_reducible refine Below.setCell ?_ ?_ _) | (with_reducible refine Below.drew ?_) | (simp [go_sem]; done) | (simp [go_sem]; omega))))

theorem first_no {s : Slc} {secs n : Int} (h : ¬ (goodG s secs ∧ 0 ≤ n ∧ n < s.len)) (hs : s.len ≤ 9223372036854775807) (w : World) [m : GM s w] :
    Calls Try.prog 12 #[.agg #[.slice s.ad s.len s.cap, .int .i64 secs], .int .i64 n] w (Ret (.int .i64 0) w) := by
  have HH := Lib.hid (fun (w : World) [GM s w] => hasnt_grp h hs w)
  clear h
  go_enter Try.func12, Try.ntmps12
  go_wp2_with (go_at_call 16; with_reducible refine (Calls.at (HH.out _)).mono ?_; rintro e w' ⟨rfl, g, rfl⟩)
  go_ret
  exact Ret.mk rfl (by (repeat' (first | (with_reducible exact Below.refl _ _) | (with_reducible refine belowGrU ?_ _) | (with_reducible refine belowAlloc ?_ _) | (with_reducible refine Below.setCell ?_ ?_ _) | (with_reducible refine Below.drew ?_) | (simp [go_sem]; done) | (simp [go_sem]; omega))))

end Go.Proofs.Ytbofgldghjdphaa

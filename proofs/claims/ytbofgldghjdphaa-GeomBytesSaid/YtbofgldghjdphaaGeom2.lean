/-
  What the functions of package geom come to, the rest: a device's group, a group's room, what a block takes.
-/
import Derived.Test.YtbofgldghjdphaaGeom
namespace Go.Proofs.Ytbofgldghjdphaa
open Go.RowKit Go.ChangeShapes Go.WideShapes Go.Joins

/-- a device's group -/
theorem of_yes {s : Slc} {secs d : Int} {n : Nat} (h : goodG s secs) (hn : n < s.len) (h1 : sumW s n ≤ d) (h2 : d < sumW s (n + 1)) (w : World) [m : GM s w] :
    Calls Try.prog 15 #[.agg #[.slice s.ad s.len s.cap, .int .i64 secs], .int .i64 d] w (Ret (.tuple #[.int .i64 (n : Int), .int .i64 (d - sumW s n), .bool true]) w) := by
  have HR := Lib.hid (fun (w : World) [GM s w] => right_yes h w)
  have hl := h.2.1
  have HG := Lib.hid h
  have hd0 : 0 ≤ d := by have := sumW_le h n (by omega); omega
  have hd1 : d ≤ 40 := by have := sumW_le h (n + 1) (by omega); omega
  clear h
  go_enter Try.func15, Try.ntmps15
  go_wp2_with (go_at_call 10; with_reducible refine (Calls.at (HR.out _)).mono ?_; rintro e w' ⟨rfl, g, rfl⟩)
  go_loopw [1, 19] (fun v i wr => ∃ k : Nat, k ≤ n ∧ i = .int .i64 k ∧ v = .int .i64 (d - sumW s k) ∧ ∃ g' : Gr, wr = gr (w.alloc (.cells #[.slice s.ad s.len s.cap, .int .i64 secs] 24)) g')
    (fun _ i _ => s.len - (intOf i).toNat)
  case atStart => exact ⟨0, Nat.zero_le _, rfl, by simp [sumW], _, rfl⟩
  case round =>
    obtain ⟨k, hk, rfl, rfl, g', rfl⟩ := hrel
    have hb := sumW_le HG.out k (by omega)
    have hlt : k < s.len := by omega
    have hcx := m.c0 k hlt
    have hcy := m.c1 k hlt
    have hix := ix_grp m hlt
    haveI hbo := m.isOld hlt
    have hw := wide_of HG.out hlt
    by_cases e : k < n
    · have hm := sumW_mono (j := k + 1) HG.out n (by omega) (by omega)
      have hs1 : sumW s k + s.y k ≤ d := by simp only [sumW] at hm; omega
      clear hm
      go_wp2_with fail
      go_roundw
      case rel => exact ⟨k + 1, by omega, by go_num, by (simp only [sumW]; go_num), ex_gr_alloc' _ _ _⟩
      case measure => simp [intOf]; omega
    · obtain rfl : n = k := by omega
      have hs1 : d - sumW s n < s.y n := by simp only [sumW] at h2; omega
      go_wp2_with fail
      go_ret3
      exact Ret.mk rfl (by (repeat' (first | (with_reducible exact Below.refl _ _) | (with_reducible refine belowGrU ?_ _) | (with_reducible refine belowAlloc ?_ _) | (with_reducible refine Below.setCell ?_ ?_ _) | (with_reducible refine Below.drew ?_) | (simp [go_sem]; done) | (simp [go_sem]; omega))))
set_option maxHeartbeats 1000000 in
theorem of_no {s : Slc} {secs d : Int} (h : ¬ (goodG s secs ∧ 0 ≤ d ∧ d < sumW s s.len)) (hs : s.len ≤ 9223372036854775807) (hdm : d ≤ 9223372036854775807) (w : World) [m : GM s w] :
    Calls Try.prog 15 #[.agg #[.slice s.ad s.len s.cap, .int .i64 secs], .int .i64 d] w (Ret (.tuple #[.int .i64 0, .int .i64 0, .bool false]) w) := by
  by_cases hg : goodG s secs
  · have HR := Lib.hid (fun (w : World) [GM s w] => right_yes hg w)
    by_cases h0 : 0 ≤ d
    · have h1 : sumW s s.len ≤ d := Int.not_lt.1 fun h1 => h ⟨hg, h0, h1⟩
      have hl := hg.2.1
      have HG := Lib.hid hg
      clear h hg
      go_enter Try.func15, Try.ntmps15
      go_wp2_with (go_at_call 10; with_reducible refine (Calls.at (HR.out _)).mono ?_; rintro e w' ⟨rfl, g, rfl⟩)
      go_loopw [1, 19] (fun v i wr => ∃ k : Nat, k ≤ s.len ∧ i = .int .i64 k ∧ v = .int .i64 (d - sumW s k) ∧ ∃ g' : Gr, wr = gr (w.alloc (.cells #[.slice s.ad s.len s.cap, .int .i64 secs] 24)) g')
        (fun _ i _ => s.len - (intOf i).toNat)
      case atStart => exact ⟨0, Nat.zero_le _, rfl, by simp [sumW], _, rfl⟩
      case round =>
        obtain ⟨k, hk, rfl, rfl, g', rfl⟩ := hrel
        have hb := sumW_le HG.out k hk
        by_cases hlt : k < s.len
        · have hcx := m.c0 k hlt
          have hcy := m.c1 k hlt
          have hix := ix_grp m hlt
          haveI hbo := m.isOld hlt
          have hw := wide_of HG.out hlt
          have hm := sumW_mono (j := k + 1) HG.out s.len (by omega) (by omega)
          have hs1 : sumW s k + s.y k ≤ d := by simp only [sumW] at hm; omega
          clear hm
          go_wp2_with fail
          go_roundw
          case rel => exact ⟨k + 1, by omega, by go_num, by (simp only [sumW]; go_num), ex_gr_alloc' _ _ _⟩
          case measure => simp [intOf]; omega
        · obtain rfl : s.len = k := by omega
          go_wp2_with fail
          go_ret3
          exact Ret.mk rfl (by (repeat' (first | (with_reducible exact Below.refl _ _) | (with_reducible refine belowGrU ?_ _) | (with_reducible refine belowAlloc ?_ _) | (with_reducible refine Below.setCell ?_ ?_ _) | (with_reducible refine Below.drew ?_) | (simp [go_sem]; done) | (simp [go_sem]; omega))))
    · clear h hg
      go_enter Try.func15, Try.ntmps15
      go_wp2_with (go_at_call 10; with_reducible refine (Calls.at (HR.out _)).mono ?_; rintro e w' ⟨rfl, g, rfl⟩)
      go_ret3
      exact Ret.mk rfl (by (repeat' (first | (with_reducible exact Below.refl _ _) | (with_reducible refine belowGrU ?_ _) | (with_reducible refine belowAlloc ?_ _) | (with_reducible refine Below.setCell ?_ ?_ _) | (with_reducible refine Below.drew ?_) | (simp [go_sem]; done) | (simp [go_sem]; omega))))
  · have HR := Lib.hid (fun (w : World) [GM s w] => right_no hg hs w)
    clear h hg
    go_enter Try.func15, Try.ntmps15
    go_wp2_with (go_at_call 10; with_reducible refine (Calls.at (HR.out _)).mono ?_; rintro e w' ⟨rfl, g, rfl⟩)
    go_ret3
    exact Ret.mk rfl (by (repeat' (first | (with_reducible exact Below.refl _ _) | (with_reducible refine belowGrU ?_ _) | (with_reducible refine belowAlloc ?_ _) | (with_reducible refine Below.setCell ?_ ?_ _) | (with_reducible refine Below.drew ?_) | (simp [go_sem]; done) | (simp [go_sem]; omega))))

/-- a group's room -/
def secsOf (k v secs : Int) : Int := if k = 1 then (secs - 16) * v else secs - 16
theorem sectors_yes {s : Slc} {secs : Int} {n : Nat} (h : goodG s secs) (hn : n < s.len) (w : World) [m : GM s w] :
    Calls Try.prog 11 #[.agg #[.slice s.ad s.len s.cap, .int .i64 secs], .int .i64 (n : Int)] w (Ret (.int .i64 (secsOf (s.x n) (s.y n) secs)) w) := by
  have HH := Lib.hid (fun (w : World) [GM s w] => has_grp h hn w)
  have hw := wide_of h hn
  have h3 := h.2.2.1
  have h4 := h.2.2.2.1
  have hl := h.2.1
  clear h
  have hcx := m.c0 n hn
  have hcy := m.c1 n hn
  have hix := ix_grp m hn
  haveI hbo := m.isOld hn
  rcases hw.2.2 with hx | ⟨hx, h3w⟩
  · have e := Lib.hid (show secsOf (s.x n) (s.y n) secs = secs - 16 by unfold secsOf; rw [if_neg (by omega)])
    have hx0 : (s.x n == 1) = false := by rw [hx]; rfl
    clear hx
    go_enter Try.func11, Try.ntmps11
    go_wp2_with (go_at_call 16; with_reducible refine (Calls.at (HH.out _)).mono ?_; rintro e w' ⟨rfl, g, rfl⟩)
    go_ret
    exact Ret.mk (by rw [e.out]; rfl) (by (repeat' (first | (with_reducible exact Below.refl _ _) | (with_reducible refine belowGrU ?_ _) | (with_reducible refine belowAlloc ?_ _) | (with_reducible refine Below.setCell ?_ ?_ _) | (with_reducible refine Below.drew ?_) | (simp [go_sem]; done) | (simp [go_sem]; omega))))
  · have e := Lib.hid (show secsOf (s.x n) (s.y n) secs = (secs - 16) * s.y n by unfold secsOf; rw [if_pos hx])
    have hx0 : (s.x n == 1) = true := by rw [hx]; rfl
    have hp : 0 ≤ (secs - 16) * s.y n := Int.mul_nonneg (by omega) (by omega)
    have hq : (secs - 16) * s.y n ≤ 9223372036854775807 := by
      have : (secs - 16) * s.y n ≤ 4080 * 8 := Int.mul_le_mul (by omega) (by omega) (by omega) (by omega)
      omega
    clear hx
    go_enter Try.func11, Try.ntmps11
    go_wp2_with (go_at_call 16; with_reducible refine (Calls.at (HH.out _)).mono ?_; rintro e w' ⟨rfl, g, rfl⟩)
    go_ret
    exact Ret.mk (by rw [e.out]; rfl) (by (repeat' (first | (with_reducible exact Below.refl _ _) | (with_reducible refine belowGrU ?_ _) | (with_reducible refine belowAlloc ?_ _) | (with_reducible refine Below.setCell ?_ ?_ _) | (with_reducible refine Below.drew ?_) | (simp [go_sem]; done) | (simp [go_sem]; omega))))
theorem sectors_no {s : Slc} {secs n : Int} (h : ¬ (goodG s secs ∧ 0 ≤ n ∧ n < s.len)) (hs : s.len ≤ 9223372036854775807) (w : World) [m : GM s w] :
    Calls Try.prog 11 #[.agg #[.slice s.ad s.len s.cap, .int .i64 secs], .int .i64 n] w (Ret (.int .i64 0) w) := by
  have HH := Lib.hid (fun (w : World) [GM s w] => hasnt_grp h hs w)
  clear h
  go_enter Try.func11, Try.ntmps11
  go_wp2_with (go_at_call 16; with_reducible refine (Calls.at (HH.out _)).mono ?_; rintro e w' ⟨rfl, g, rfl⟩)
  go_ret
  exact Ret.mk rfl (by (repeat' (first | (with_reducible exact Below.refl _ _) | (with_reducible refine belowGrU ?_ _) | (with_reducible refine belowAlloc ?_ _) | (with_reducible refine Below.setCell ?_ ?_ _) | (with_reducible refine Below.drew ?_) | (simp [go_sem]; done) | (simp [go_sem]; omega))))

/-- what a block takes of a group -/
def takeOf (k v size : Int) : Int := if k = 0 then size else (size + (size + v - 2) / (v - 1)) + (size + (size + v - 2) / (v - 1)) % 2
theorem takes_yes {s : Slc} {secs size : Int} {n : Nat} (h : goodG s secs) (hn : n < s.len) (z1 : 1 ≤ size) (z2 : size ≤ 4) (w : World) [m : GM s w] :
    Calls Try.prog 9 #[.agg #[.slice s.ad s.len s.cap, .int .i64 secs], .int .i64 (n : Int), .int .i64 size] w (Ret (.int .i64 (takeOf (s.x n) (s.y n) size)) w) := by
  have HH := Lib.hid (fun (w : World) [GM s w] => has_grp h hn w)
  have hw := wide_of h hn
  have hl := h.2.1
  clear h
  have hcx := m.c0 n hn
  have hcy := m.c1 n hn
  have hix := ix_grp m hn
  haveI hbo := m.isOld hn
  rcases hw.2.2 with hx | ⟨hx, h3w⟩
  · have e := Lib.hid (show takeOf (s.x n) (s.y n) size = size by unfold takeOf; rw [if_pos hx])
    have hx0 : (s.x n == 0) = true := by rw [hx]; rfl
    clear hx
    go_enter Try.func9, Try.ntmps9
    go_wp2_with (go_at_call 16; with_reducible refine (Calls.at (HH.out _)).mono ?_; rintro e w' ⟨rfl, g, rfl⟩)
    go_ret
    exact Ret.mk (by rw [e.out]; rfl) (by (repeat' (first | (with_reducible exact Below.refl _ _) | (with_reducible refine belowGrU ?_ _) | (with_reducible refine belowAlloc ?_ _) | (with_reducible refine Below.setCell ?_ ?_ _) | (with_reducible refine Below.drew ?_) | (simp [go_sem]; done) | (simp [go_sem]; omega))))
  · have e := Lib.hid (show takeOf (s.x n) (s.y n) size = (size + (size + s.y n - 2) / (s.y n - 1)) + (size + (size + s.y n - 2) / (s.y n - 1)) % 2 by unfold takeOf; rw [if_neg (by omega)])
    have hx0 : (s.x n == 0) = false := by rw [hx]; rfl
    clear hx
    have q0 : 0 ≤ (size + s.y n - 2) / (s.y n - 1) := Int.ediv_nonneg (by omega) (by omega)
    have q1 : (size + s.y n - 2) / (s.y n - 1) ≤ size + s.y n - 2 := Int.ediv_le_self _ (by omega)
    go_enter Try.func9, Try.ntmps9
    go_wp2_with (go_at_call 16; with_reducible refine (Calls.at (HH.out _)).mono ?_; rintro e w' ⟨rfl, g, rfl⟩)
    go_ret
    exact Ret.mk (by rw [e.out]; rfl) (by (repeat' (first | (with_reducible exact Below.refl _ _) | (with_reducible refine belowGrU ?_ _) | (with_reducible refine belowAlloc ?_ _) | (with_reducible refine Below.setCell ?_ ?_ _) | (with_reducible refine Below.drew ?_) | (simp [go_sem]; done) | (simp [go_sem]; omega))))
theorem takes_no {s : Slc} {secs n size : Int} (h : ¬ (goodG s secs ∧ 0 ≤ n ∧ n < s.len ∧ 1 ≤ size ∧ size ≤ 4)) (hs : s.len ≤ 9223372036854775807) (w : World) [m : GM s w] :
    Calls Try.prog 9 #[.agg #[.slice s.ad s.len s.cap, .int .i64 secs], .int .i64 n, .int .i64 size] w (Ret (.int .i64 0) w) := by
  by_cases hh : goodG s secs ∧ 0 ≤ n ∧ n < s.len
  · obtain ⟨hg, h0, hn⟩ := hh
    obtain ⟨k, rfl⟩ := Int.eq_ofNat_of_zero_le h0
    have HH := Lib.hid (fun (w : World) [GM s w] => has_grp hg (k := k) (by omega) w)
    by_cases z1 : 1 ≤ size
    · have z2 : ¬ size ≤ 4 := fun z2 => h ⟨hg, h0, hn, z1, z2⟩
      clear h hg
      go_enter Try.func9, Try.ntmps9
      go_wp2_with (go_at_call 16; with_reducible refine (Calls.at (HH.out _)).mono ?_; rintro e w' ⟨rfl, g, rfl⟩)
      go_ret
      exact Ret.mk rfl (by (repeat' (first | (with_reducible exact Below.refl _ _) | (with_reducible refine belowGrU ?_ _) | (with_reducible refine belowAlloc ?_ _) | (with_reducible refine Below.setCell ?_ ?_ _) | (with_reducible refine Below.drew ?_) | (simp [go_sem]; done) | (simp [go_sem]; omega))))
    · clear h hg
      go_enter Try.func9, Try.ntmps9
      go_wp2_with (go_at_call 16; with_reducible refine (Calls.at (HH.out _)).mono ?_; rintro e w' ⟨rfl, g, rfl⟩)
      go_ret
      exact Ret.mk rfl (by (repeat' (first | (with_reducible exact Below.refl _ _) | (with_reducible refine belowGrU ?_ _) | (with_reducible refine belowAlloc ?_ _) | (with_reducible refine Below.setCell ?_ ?_ _) | (with_reducible refine Below.drew ?_) | (simp [go_sem]; done) | (simp [go_sem]; omega))))
  · have HH := Lib.hid (fun (w : World) [GM s w] => hasnt_grp hh hs w)
    clear h hh
    go_enter Try.func9, Try.ntmps9
    go_wp2_with (go_at_call 16; with_reducible refine (Calls.at (HH.out _)).mono ?_; rintro e w' ⟨rfl, g, rfl⟩)
    go_ret
    exact Ret.mk rfl (by (repeat' (first | (with_reducible exact Below.refl _ _) | (with_reducible refine belowGrU ?_ _) | (with_reducible refine belowAlloc ?_ _) | (with_reducible refine Below.setCell ?_ ?_ _) | (with_reducible refine Below.drew ?_) | (simp [go_sem]; done) | (simp [go_sem]; omega))))

end Go.Proofs.Ytbofgldghjdphaa

/-
  What the laws on measures share: the document's example; a measure that comes in.
-/
import Derived.Test.YtbofgldghjdphaaGeom2
import Derived.Test.YtbofgldghjdphaaRow
namespace Go.Proofs.Ytbofgldghjdphaa
open Go.RowKit Go.ChangeShapes Go.WideShapes Go.ChangeAt Go.Joins

theorem awake_any : Pure Try.prog 8 #[] (.bool true) := by
  intro w
  let s : Slc := ⟨some ⟨w.heap.size, 0, none⟩, w.heap.size, 0, 1, 1, fun _ => 1, fun _ => 3⟩
  have hg : goodG s 24 := ⟨Nat.le_refl _, (by show (1 : Nat) ≤ 4; omega), by decide, by decide, fun k _ => rfl⟩
  have hm : GM s (w.alloc (.cells #[.int .i64 1, .int .i64 3] 29)) := by
    refine ⟨fun k _ => rfl, fun k _ => by simp [s], fun k hk => ?_, fun k hk => ?_⟩
    · obtain rfl : k = 0 := by simp [s] at hk; omega
      simp [s]
    · obtain rfl : k = 0 := by simp [s] at hk; omega
      simp [s]
  have c := takes_yes (n := 0) hg (by show (0 : Nat) < 1; omega) (by decide : (1 : Int) ≤ 3) (by decide) (w.alloc (.cells #[.int .i64 1, .int .i64 3] 29))
  have e : takeOf (s.x 0) (s.y 0) 3 = 6 := (by decide : takeOf 1 3 3 = 6)
  rw [e] at c
  have c' : Calls Try.prog 9 #[.agg #[.slice (some ⟨w.heap.size, 0, none⟩) 1 1, .int .i64 24], .int .i64 0, .int .i64 3] (w.alloc (.cells #[.int .i64 1, .int .i64 3] 29)) (Ret (.int .i64 6) (w.alloc (.cells #[.int .i64 1, .int .i64 3] 29))) := c
  clear c e hm hg
  clear s
  go_enter Try.func8, Try.ntmps8
  go_wp2_with (go_at_call 9; with_reducible refine (Calls.at c').mono ?_; rintro e w' ⟨rfl, g, rfl⟩)
  go_ret
  exact Ret.mk rfl (by (repeat' (first | (with_reducible exact Below.refl _ _) | (with_reducible refine belowGrU ?_ _) | (with_reducible refine belowAlloc ?_ _) | (with_reducible refine Below.setCell ?_ ?_ _) | (with_reducible refine Below.drew ?_) | (simp [go_sem]; done) | (simp [go_sem]; omega))))

theorem Try.cellsGeom : Try.prog.cellsOf 24 = 2 := by kernel_rfl
theorem Try.cellsGroup : Try.prog.cellsOf 29 = 2 := by kernel_rfl
theorem Try.cellsI : Try.prog.cellsOf 3 = 1 := by kernel_rfl
/-- a measure that comes in -/
theorem open_geom {H : Type} {enc : TypeId × Value → H} {W : World} {base : Nat} {v : Value} {d : DataW H} {ps : List MemPlace}
    (hv : Value.okWide Try.prog W .any base 24 v) (h : DataW.Trod enc Try.prog W 0 (fun _ => true) true 24 v d ps) :
    ∃ (s : Slc) (secs : Int), v = .agg #[.slice s.ad s.len s.cap, .int .i64 secs] ∧ s.len ≤ 9223372036854775807 ∧ GM s W ∧ (Lit.int .i64 secs).wf = true := by
  obtain ⟨c0, c1, y0, y1, m, rfl, rfl, rfl, hy0, hy1⟩ := open_agg2 Try.underlying24 (by kernel_rfl) Try.cellsGeom hv h
  obtain ⟨secs, e1, _, wf⟩ := DataW.trod_int Try.underlying3 hy1
  obtain ⟨ad, blk, off, len, cap, x, y, rfl, hm, had, hf, ht⟩ := trod_sl2 Try.underlying22 Try.underlying29 Try.cellsGroup Try.underlying3 Try.cellsI rfl rfl rfl rfl hy0
  simp at e1
  subst e1
  unfold maxLen at hm
  exact ⟨⟨ad, blk, off, len, cap, x, y⟩, secs, rfl, by simp only; omega, ⟨fun k hk => (had k hk).1, fun k hk => (had k hk).2, hf, ht⟩, wf⟩

end Go.Proofs.Ytbofgldghjdphaa

/-
  fletch.More: the sum that comes of another one.
-/
import Derived.Test.YtnflakaphbjbhaaFletch
import Derived.Laws.ResultCell
namespace Go.Proofs.Ytnflakaphbjbhaa
open Go.RowKit Go.Sort

theorem results_s4_tmp {fn : Func} {p u : Tmp} (h : fn.results = #[.cell p 29, .tmp u]) (tmps : Array Value) (w : World) (g : Nat) (a b c d : Value) (fr : Nat × Nat)
    (hp : tmps.getD p undef = .pointer (some ⟨g, 0, none⟩)) (hg : w.heap[g]? = some (.cells #[a, b, c, d] 29 fr)) :
    (results fn tmps).run Try.prog w = .ok (.tuple #[.agg #[a, b, c, d], tmps.getD u undef]) w := by
  rw [results_cell_tmp h, hp]
  simp only [asAddr, Sem.run_pure, Result.andThen_ok]
  rw [run_loadVar_row (P := Try.prog) w g 29 29 #[a, b, c, d] fr _ hg Try.underlying29 rfl (by kernel_rfl)]
  rfl

theorem More_no (x : S4) (s : ByteArray) (h : s.size % 4 ≠ 0) (hs : s.size < 4611686018427387900) :
    Pure Try.prog 11 #[x.v, .string s] (.tuple #[zero4.v, .int .i64 1]) := by
  intro w
  obtain ⟨x0, x1, x2, x3⟩ := x
  simp only [S4.v, S4.cs, zero4]
  go_enter Try.func11, Try.ntmps11
  go_wp2_with fail
  all_goals (try (exfalso; omega))
  have hcell : ((w.alloc (.cells #[.int .u64 (x0 : Int), .int .u64 (x1 : Int), .int .u64 (x2 : Int), .int .u64 (x3 : Int)] 29)).alloc (.cells #[.int .u64 0, .int .u64 0, .int .u64 0, .int .u64 0] 29)).heap[w.heap.size + 1]? = some (.cells #[.int .u64 0, .int .u64 0, .int .u64 0, .int .u64 0] 29 (0, 0)) := by
    have h := World.alloc_heap_new (w.alloc (.cells #[.int .u64 (x0 : Int), .int .u64 (x1 : Int), .int .u64 (x2 : Int), .int .u64 (x3 : Int)] 29)) (.cells #[.int .u64 0, .int .u64 0, .int .u64 0, .int .u64 0] 29)
    rwa [World.size_alloc] at h
  exact bodyPost_ret (results_s4_tmp rfl _ _ (w.heap.size + 1) _ _ _ _ _ rfl hcell) rfl (Ret.mk rfl (by (repeat' (first | (with_reducible exact Below.refl _ _) | (with_reducible refine belowGrU ?_ _) | (with_reducible refine belowAlloc ?_ _) | (with_reducible refine Below.setCell ?_ ?_ _) | (with_reducible refine Below.drew ?_) | (simp [go_sem]; done) | (simp [go_sem]; omega)))))

theorem More_yes (x : S4) (hx : x.ok) (s : ByteArray) (h : s.size % 4 = 0) (hs : s.size < 4611686018427387900) :
    Pure Try.prog 11 #[x.v, .string s] (.tuple #[(sums x (wordsL s)).v, .int .i64 0]) := by
  intro w
  have c := more_any x hx s hs
  rw [pad4_id h] at c
  generalize sums x (wordsL s) = z at c ⊢
  clear hx
  obtain ⟨x0, x1, x2, x3⟩ := x
  obtain ⟨z0, z1, z2, z3⟩ := z
  simp only [S4.v, S4.cs] at c ⊢
  go_enter Try.func11, Try.ntmps11
  go_wp2_with (go_at_call 22; with_reducible refine (c.at _).mono ?_; rintro e w' ⟨rfl, g, rfl⟩)
  all_goals (try (exfalso; omega))
  have hcell : (gr ((w.alloc (.cells #[.int .u64 (x0 : Int), .int .u64 (x1 : Int), .int .u64 (x2 : Int), .int .u64 (x3 : Int)] 29)).alloc (.cells #[.int .u64 (z0 : Int), .int .u64 (z1 : Int), .int .u64 (z2 : Int), .int .u64 (z3 : Int)] 29)) g).heap[w.heap.size + 1]? = some (.cells #[.int .u64 (z0 : Int), .int .u64 (z1 : Int), .int .u64 (z2 : Int), .int .u64 (z3 : Int)] 29 (0, 0)) := by
    rw [gr_heap _ _ (by simp)]
    have h := World.alloc_heap_new (w.alloc (.cells #[.int .u64 (x0 : Int), .int .u64 (x1 : Int), .int .u64 (x2 : Int), .int .u64 (x3 : Int)] 29)) (.cells #[.int .u64 (z0 : Int), .int .u64 (z1 : Int), .int .u64 (z2 : Int), .int .u64 (z3 : Int)] 29)
    rwa [World.size_alloc] at h
  exact bodyPost_ret (results_s4_tmp rfl _ _ (w.heap.size + 1) _ _ _ _ _ rfl hcell) rfl (Ret.mk rfl (by (repeat' (first | (with_reducible exact Below.refl _ _) | (with_reducible refine belowGrU ?_ _) | (with_reducible refine belowAlloc ?_ _) | (with_reducible refine Below.setCell ?_ ?_ _) | (with_reducible refine Below.drew ?_) | (simp [go_sem]; done) | (simp [go_sem]; omega)))))

end Go.Proofs.Ytnflakaphbjbhaa

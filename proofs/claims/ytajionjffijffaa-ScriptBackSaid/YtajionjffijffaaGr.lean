/-
  Worlds that have grown behind a call: 'gr W g' is W with some blocks laid behind its heap and any count of draws.
  A callee whose contract ends in 'Below W.heap.size W w'' leaves such a world, and the walk sees through it: cells, frozen marks and stores of W's own blocks.
  A region that draws its order, whose operations read and whose callees leave such worlds, is walked once.
-/
import Derived.WalkKit
import Derived.WalkSpells
import Derived.Lib.Hide
import Derived.Lib.QuietBelow
import Derived.BigQuiet
import Derived.Laws.RangeString
namespace Go.Proofs.Ytajionjffijffaa
open Go.RowKit Go.Sort

structure Gr where
  d : Nat
  os : Array Obj

instance : Inhabited Gr := ⟨⟨0, #[]⟩⟩

def gr (W : World) (g : Gr) : World := grow (redrawn W g.d) g.os

theorem gr_size (W : World) (g : Gr) : (gr W g).heap.size = W.heap.size + g.os.size := by simp [gr, grow, redrawn]
theorem gr_heap (W : World) (g : Gr) {n : Nat} (h : n < W.heap.size) : (gr W g).heap[n]? = W.heap[n]? := heap_grow_old (redrawn W g.d) g.os h

/-! Which blocks lie in a world, by its make: found by instances, however deep the make. -/
class SizeIs (w : World) (n : Nat) : Prop where
  h : w.heap.size = n
class Old (n : Nat) (w : World) : Prop where
  h : n < w.heap.size
instance (priority := low) sizeSelf (w : World) : SizeIs w w.heap.size := ⟨rfl⟩
instance sizeAlloc (w : World) (o : Obj) (n : Nat) [k : SizeIs w n] : SizeIs (w.alloc o) (n + 1) := ⟨by rw [World.size_alloc, k.h]⟩
instance sizeSet (w : World) (a : Addr) (v : Value) (n : Nat) [k : SizeIs w n] : SizeIs (w.setCell a v) n := ⟨by rw [World.size_setCell, k.h]⟩
instance sizeDrew (w : World) (n : Nat) [k : SizeIs w n] : SizeIs w.drew n := ⟨k.h⟩
instance oldNew (w : World) (o : Obj) (n : Nat) [k : SizeIs w n] : Old n (w.alloc o) := ⟨by rw [World.size_alloc, k.h]; omega⟩
instance oldAlloc (w : World) (o : Obj) (n : Nat) [k : Old n w] : Old n (w.alloc o) := ⟨by have := k.h; rw [World.size_alloc]; omega⟩
instance oldSet (w : World) (a : Addr) (v : Value) (n : Nat) [k : Old n w] : Old n (w.setCell a v) := ⟨by rw [World.size_setCell]; exact k.h⟩
instance oldDrew (w : World) (n : Nat) [k : Old n w] : Old n w.drew := ⟨k.h⟩
instance oldGr (w : World) (g : Gr) (n : Nat) [k : Old n w] : Old n (gr w g) := ⟨by have := k.h; rw [gr_size]; omega⟩
class Upto (n : Nat) (w : World) : Prop where
  h : n ≤ w.heap.size
instance uptoSelf (w : World) : Upto w.heap.size w := ⟨Nat.le_refl _⟩
instance (priority := low) uptoOld (w : World) (n : Nat) [k : Old n w] : Upto n w := ⟨Nat.le_of_lt k.h⟩
instance uptoAlloc (w : World) (o : Obj) (n : Nat) [k : Upto n w] : Upto n (w.alloc o) := ⟨by have := k.h; rw [World.size_alloc]; omega⟩
instance uptoSet (w : World) (a : Addr) (v : Value) (n : Nat) [k : Upto n w] : Upto n (w.setCell a v) := ⟨by rw [World.size_setCell]; exact k.h⟩
instance uptoDrew (w : World) (n : Nat) [k : Upto n w] : Upto n w.drew := ⟨k.h⟩
instance uptoGr (w : World) (g : Gr) (n : Nat) [k : Upto n w] : Upto n (gr w g) := ⟨by have := k.h; rw [gr_size]; omega⟩

section
variable (W : World) (g : Gr) (n i : Nat)
@[go_sem] theorem old_lt [k : Old n W] : (n < W.heap.size) = True := by simp [k.h]
@[go_sem] theorem old_le [k : Upto n W] : (n ≤ W.heap.size) = True := by simp [k.h]
@[go_sem] theorem old_lt_add (m : Nat) [k : Old n W] : (n < W.heap.size + m) = True := by have := k.h; simp; omega
@[go_sem] theorem old_le_add (m : Nat) [k : Upto n W] : (n ≤ W.heap.size + m) = True := by have := k.h; simp; omega
@[go_sem] theorem old_ne [k : Old n W] : (W.heap.size = n) = False := by have := k.h; simp; omega
@[go_sem] theorem old_ne' [k : Old n W] : (n = W.heap.size) = False := by have := k.h; simp; omega
theorem size_le_gr : W.heap.size ≤ (gr W g).heap.size := by rw [gr_size]; omega
@[go_sem] theorem cell_gr [k : Old n W] : (gr W g).cell? ⟨n, i, none⟩ = W.cell? ⟨n, i, none⟩ := cell?_grow (redrawn W g.d) g.os ⟨n, i, none⟩ k.h
@[go_sem] theorem frozen_gr [k : Old n W] : (gr W g).frozen? ⟨n, i, none⟩ = W.frozen? ⟨n, i, none⟩ := frozen?_grow (redrawn W g.d) g.os ⟨n, i, none⟩ k.h
@[go_sem] theorem setCell_gr (v : Value) [k : Old n W] : (gr W g).setCell ⟨n, i, none⟩ v = gr (W.setCell ⟨n, i, none⟩ v) g := by
  simp only [gr, World.setCell, grow, redrawn]
  rw [modify_append_left _ _ _ _ k.h]
@[go_sem] theorem cell_past (o : Obj) [k : Old n W] : (W.alloc o).cell? ⟨n, i, none⟩ = W.cell? ⟨n, i, none⟩ := World.cell?_alloc_lt _ _ _ k.h
@[go_sem] theorem frozen_past (o : Obj) [k : Old n W] : (W.alloc o).frozen? ⟨n, i, none⟩ = W.frozen? ⟨n, i, none⟩ := World.frozen?_alloc_old _ _ _ (by have := k.h; show n ≠ _; omega)
@[go_sem] theorem setCell_past (o : Obj) (v : Value) [k : Old n W] : (W.alloc o).setCell ⟨n, i, none⟩ v = (W.setCell ⟨n, i, none⟩ v).alloc o := World.setCell_alloc_past (hn := k.h) ..
@[go_sem] theorem cell_at (c : Array Value) (t : TypeId) [k : SizeIs W n] : (W.alloc (.cells c t)).cell? ⟨n, i, none⟩ = c[i]? := World.cell?_alloc_at (hn := k.h.symm) ..
@[go_sem] theorem frozen_at (c : Array Value) (t : TypeId) [k : SizeIs W n] : (W.alloc (.cells c t)).frozen? ⟨n, i, none⟩ = false := World.frozen?_alloc_at (hn := k.h.symm) ..
@[go_sem] theorem setCell_at (c : Array Value) (t : TypeId) (v : Value) [k : SizeIs W n] : (W.alloc (.cells c t)).setCell ⟨n, i, none⟩ v = W.alloc (.cells (c.setIfInBounds i v) t) := World.setCell_alloc_at (hn := k.h.symm) ..
end

theorem gr_id (W : World) : W = gr W ⟨W.drawn, #[]⟩ := by simp [gr, grow, redrawn]
theorem ex_gr (W : World) : ∃ g : Gr, W = gr W g := ⟨_, gr_id W⟩
/-! A string's iterator, wherever it lies. -/
@[go_sem] theorem iter_eq (W : World) (s : ByteArray) (pos : Nat) : W.iter s pos = W.alloc (.stringIter s pos) := rfl
theorem heap_set_gr (W : World) (g : Gr) (o o' : Obj) : { gr (W.alloc o) g with heap := (gr (W.alloc o) g).heap.setIfInBounds W.heap.size o' } = gr (W.alloc o') g := by
  simp only [gr, grow, redrawn, World.alloc]
  congr 1
  have e : (W.heap.push o).setIfInBounds W.heap.size o' = W.heap.push o' := by
    apply Array.ext'
    simp [Array.setIfInBounds, Array.toList_push]
  rw [← e]
  apply Array.ext_getElem?
  intro k
  simp only [Array.getElem?_setIfInBounds, Array.getElem?_append, Array.size_append, Array.size_push, Array.size_setIfInBounds]
  by_cases h : W.heap.size = k
  · subst h; simp; omega
  · simp [h]
theorem run_next_gr (P : Program) (W : World) (g : Gr) (s : ByteArray) (pos n : Nat) (ty : TypeId) (k : W.heap.size = n) :
    (Instr.next (.pointer (some ⟨n, 0, none⟩)) true ty).run P (gr (W.alloc (.stringIter s pos)) g) =
      if pos < s.size then .ok (.tuple #[.bool true, .int .i64 pos, .int .i32 (Utf8.decode s pos).1]) (gr (W.alloc (.stringIter s (pos + (Utf8.decode s pos).2))) g)
      else .ok (.tuple #[.bool false]) (gr (W.alloc (.stringIter s pos)) g) := by
  subst k
  have h1 : (gr (W.alloc (.stringIter s pos)) g).heap[W.heap.size]? = some (.stringIter s pos) := by
    rw [gr_heap _ _ (by simp)]; exact World.iter_heap W s pos
  by_cases h : pos < s.size
  · simp [Instr.next, getObj, setObj, goInt, Sem.run_bind, Sem.run, h1, Result.andThen, h, heap_set_gr]
  · simp [Instr.next, getObj, Sem.run, h1, h]
@[go_sem] theorem run_next_str {P : Program} (W : World) (g : Gr) (s : ByteArray) (pos n : Nat) (ty : TypeId) [k : SizeIs W n] :
    (Instr.next (.pointer (some ⟨n, 0, none⟩)) true ty).run P (gr (W.alloc (.stringIter s pos)) g) =
      if pos < s.size then .ok (.tuple #[.bool true, .int .i64 pos, .int .i32 (Utf8.decode s pos).1]) (gr (W.alloc (.stringIter s (pos + (Utf8.decode s pos).2))) g)
      else .ok (.tuple #[.bool false]) (gr (W.alloc (.stringIter s pos)) g) := run_next_gr P W g s pos n ty k.h
@[go_sem] theorem run_next_str' {P : Program} (W : World) (s : ByteArray) (pos n : Nat) (ty : TypeId) [k : SizeIs W n] :
    (Instr.next (.pointer (some ⟨n, 0, none⟩)) true ty).run P (W.alloc (.stringIter s pos)) =
      if pos < s.size then .ok (.tuple #[.bool true, .int .i64 pos, .int .i32 (Utf8.decode s pos).1]) (W.alloc (.stringIter s (pos + (Utf8.decode s pos).2)))
      else .ok (.tuple #[.bool false]) (W.alloc (.stringIter s pos)) := by
  have hg : ∀ X : World, gr X ⟨W.drawn, #[]⟩ = { X with drawn := W.drawn } := fun X => by simp [gr, grow, redrawn]
  have h := run_next_gr P W ⟨W.drawn, #[]⟩ s pos n ty k.h
  rw [hg, hg] at h
  exact h

/-- draws and blocks add up -/
def Gr.seq (g g' : Gr) : Gr := ⟨g'.d, g.os ++ g'.os⟩
@[go_sem] theorem gr_gr (W : World) (g g' : Gr) : gr (gr W g) g' = gr W (g.seq g') := by
  simp only [gr, grow, redrawn, Gr.seq, Array.append_assoc]
/-- a block of one's own among those that have come -/
def Gr.push (g : Gr) (o : Obj) : Gr := ⟨g.d, g.os.push o⟩
theorem gr_alloc (W : World) (g : Gr) (o : Obj) : (gr W g).alloc o = gr W (g.push o) := by
  simp only [gr, grow, redrawn, Gr.push, World.alloc, Array.append_push]
theorem ex_gr_alloc (W : World) (g g' : Gr) (o : Obj) : ∃ g2 : Gr, gr ((gr W g).alloc o) g' = gr W g2 := ⟨_, by rw [gr_alloc, gr_gr]⟩
theorem ex_gr_alloc' (W : World) (g : Gr) (o : Obj) : ∃ g2 : Gr, (gr W g).alloc o = gr W g2 := ⟨_, gr_alloc W g o⟩
def Gr.drawn (g : Gr) : Gr := ⟨g.d + 1, g.os⟩
@[go_sem] theorem gr_drew (W : World) (g : Gr) : (gr W g).drew = gr W g.drawn := rfl
@[go_sem] theorem drew_gr (W : World) (g : Gr) : gr W.drew g = gr W g := rfl

theorem below_gr (W : World) (g : Gr) : Below W.heap.size W (gr W g) := below_regrown W g.d g.os
theorem belowGr {B : Nat} {a W : World} (h : Below B a W) (hB : B ≤ W.heap.size) (g : Gr) : Below B a (gr W g) := h.trans ((below_gr W g).mono hB)
theorem belowAlloc {B : Nat} {a W : World} (h : Below B a W) (o : Obj) [k : Upto B W] : Below B a (W.alloc o) := h.alloc k.h o
theorem belowGrU {B : Nat} {a W : World} (h : Below B a W) (g : Gr) [k : Upto B W] : Below B a (gr W g) := belowGr h k.h g
theorem bel1 (w : World) (o : Obj) (g : Gr) : Below w.heap.size w (gr (w.alloc o) g) := belowGrU (belowAlloc (Below.refl _ _) _) _
theorem bel1' (w : World) (o : Obj) : Below w.heap.size w (w.alloc o) := belowAlloc (Below.refl _ _) _
theorem bel2 (w : World) (o o' : Obj) (g : Gr) : Below w.heap.size w (gr ((w.alloc o).alloc o') g) := belowGrU (belowAlloc (belowAlloc (Below.refl _ _) _) _) _
theorem bel2' (w : World) (o o' : Obj) : Below w.heap.size w ((w.alloc o).alloc o') := belowAlloc (belowAlloc (Below.refl _ _) _) _
theorem bel3 (w : World) (o o' o'' : Obj) (g : Gr) : Below w.heap.size w (gr (((w.alloc o).alloc o').alloc o'') g) := belowGrU (belowAlloc (belowAlloc (belowAlloc (Below.refl _ _) _) _) _) _
theorem gr_of_below {W w' : World} (h : Below W.heap.size W w') : ∃ g : Gr, w' = gr W g := by
  obtain ⟨p, hp⟩ := regrown_of_below h
  exact ⟨⟨p.d, p.os⟩, hp⟩

/-- what a pure function's call comes to -/
def Ret (v : Value) (w : World) (e : Ending) (w' : World) : Prop := e = .returned v ∧ Below w.heap.size w w'
theorem Ret.mk {v v' : Value} {w w' : World} (h : v' = v) (hb : Below w.heap.size w w') : Ret v w (.returned v') w' := ⟨by rw [h], hb⟩

/-- A pure function: at whatever world it hands back v and leaves old memory alone. -/
def Pure (P : Program) (f : FuncId) (args : Array Value) (v : Value) : Prop := ∀ w, Calls P f args w (Ret v w)
theorem Pure.at {P : Program} {f : FuncId} {args : Array Value} {v : Value} (h : Pure P f args v) (W : World) : Calls P f args W fun e w' => e = .returned v ∧ ∃ g : Gr, w' = gr W g :=
  (h W).mono fun _ _ ⟨he, hb⟩ => ⟨he, gr_of_below hb⟩
/-- .. met in a world of the class of a region that is walked once -/
theorem Pure.inClass {P : Program} {f : FuncId} {args : Array Value} {v : Value} (h : Pure P f args v) (W : World) (g : Gr) : Calls P f args (gr W g) fun e w'' => e = .returned v ∧ ∃ p : Gr, w'' = gr W p :=
  (h (gr W g)).mono fun _ _ ⟨he, hb⟩ => ⟨he, by obtain ⟨g', h'⟩ := gr_of_below hb; exact ⟨g.seq g', by rw [h', gr_gr]⟩⟩

/-- A region that draws its order, walked once, in the class of the worlds grown out of W. -/
theorem wp_region_gr {P : Program} {id : Nat} {Q : Exit → Act → World → Prop} {a : Act} {w : World} {l : List Oper} (hm : P.follows .mixedOrders = true) (hB : Region.lexB .any l.toArray = true)
    (h : wpQuiet P l.toArray (fun w' => ∃ p : Gr, w' = gr w p) (fun a' => ∀ w', (∃ p : Gr, w' = gr w p) → Q .normal a' w') l a) : (Code.region id l.toArray true).wp P Q a w :=
  wp_region_quiet (C := fun w' => ∃ p : Gr, w' = gr w p) hm hB ⟨⟨w.drawn + 1, #[]⟩, by simp only [gr, grow_empty]; rfl⟩ (by simpa using h)

/-- .. of a world that is of that make already -/
theorem wp_region_gr2 {P : Program} {id : Nat} {Q : Exit → Act → World → Prop} {a : Act} {w : World} {g : Gr} {l : List Oper} (hm : P.follows .mixedOrders = true) (hB : Region.lexB .any l.toArray = true)
    (h : wpQuiet P l.toArray (fun w' => ∃ p : Gr, w' = gr w p) (fun a' => ∀ w', (∃ p : Gr, w' = gr w p) → Q .normal a' w') l a) : (Code.region id l.toArray true).wp P Q a (gr w g) :=
  wp_region_quiet (C := fun w' => ∃ p : Gr, w' = gr w p) hm hB ⟨⟨g.d + 1, g.os⟩, rfl⟩ (by simpa using h)

/-- the builtins min and max of two integers, behind names: the walk does not part on them -/
def imin (x y : Int) : Int := if y < x then y else x
def imax (x y : Int) : Int := if x < y then y else x
@[go_sem ↓] theorem run_imin {P : Program} {w : World} (ts : Array TypeId) (t : TypeId) (k k' : IntKind) (x y : Int) : (Builtin.min_ ts t #[.int k x, .int k' y]).run P w = .ok (.int k (imin x y)) w := by
  simp [Builtin.min_, Builtin.min2, imin]
@[go_sem ↓] theorem run_imax {P : Program} {w : World} (ts : Array TypeId) (t : TypeId) (k k' : IntKind) (x y : Int) : (Builtin.max_ ts t #[.int k x, .int k' y]).run P w = .ok (.int k (imax x y)) w := by
  simp [Builtin.max_, Builtin.max2, imax]

end Go.Proofs.Ytajionjffijffaa

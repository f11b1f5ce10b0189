/-
  script.words, Words: how many numbers an act has; the words' map is ranged over in whatever order.
-/
import Derived.Maps.RangeRun
import Derived.MapKept
import Derived.ChangeMaps5
import Derived.Test.YtajionjffijffaaNum
import Derived.Test.YtajionjffijffaaRangeK
namespace Go.Proofs.Ytajionjffijffaa
open Go.RowKit Go.Sort
open Go.ChangeMaps (setBlock)

/-! ### the words -/
def ws0 : List ByteArray := [⟨#[115, 121, 110, 99]⟩, ⟨#[105, 109, 112, 111, 114, 116]⟩, ⟨#[115, 99, 114, 117, 98]⟩, ⟨#[115, 116, 111, 112]⟩, ⟨#[108, 101, 102, 116]⟩, ⟨#[104, 101, 97, 108, 116, 104]⟩]
def ws1 : List ByteArray := [⟨#[100, 114, 111, 112]⟩, ⟨#[115, 110, 97, 112]⟩, ⟨#[100, 101, 115, 116, 114, 111, 121]⟩, ⟨#[114, 111, 108, 108]⟩, ⟨#[99, 114, 97, 115, 104]⟩, ⟨#[108, 111, 115, 101]⟩, ⟨#[97, 119, 97, 121]⟩, ⟨#[104, 101, 114, 101]⟩, ⟨#[114, 101, 115, 105, 108, 118, 101, 114]⟩, ⟨#[115, 116, 101, 112, 115]⟩, ⟨#[108, 105, 115, 116]⟩]
def ws2 : List ByteArray := [⟨#[99, 117, 116]⟩, ⟨#[114, 101, 112, 108, 97, 99, 101]⟩]
def ws3 : List ByteArray := [⟨#[119, 114, 105, 116, 101]⟩, ⟨#[115, 112, 111, 105, 108]⟩, ⟨#[114, 101, 97, 100]⟩]
def wsT : Nat → List ByteArray
  | 0 => ws0
  | 1 => ws1
  | 2 => ws2
  | 3 => ws3
  | _ => []
def keyT : Nat → Nat
  | 0 => 0
  | 1 => 1
  | 2 => 2
  | _ => 4
def wcells (i : Nat) : Array Value := ((wsT i).map Value.string).toArray
def entT (B i : Nat) : MapEntry := { key := .int .i64 (keyT i : Int), val := .slice (some ⟨B + 1 + i, 0, none⟩) (wsT i).length (wsT i).length, born := i }
def esT (B : Nat) : Array MapEntry := #[entT B 0, entT B 1, entT B 2, entT B 3]
def wordsW (w : World) : World := ((((w.alloc (.map (esT w.heap.size) 4)).alloc (.cells (wcells 0) 9)).alloc (.cells (wcells 1) 9)).alloc (.cells (wcells 2) 9)).alloc (.cells (wcells 3) 9)

theorem fold_gr (W : World) : ∀ (os : List Obj), os.foldl World.alloc W = gr W ⟨W.drawn, os.toArray⟩ := fun os => by
  have h : ∀ (os : List Obj) (g : Gr), os.foldl World.alloc (gr W g) = gr W ⟨g.d, g.os ++ os.toArray⟩ := fun os => by
    induction os with
    | nil => intro g; simp
    | cons o os ih =>
      intro g
      rw [List.foldl_cons, gr_alloc, ih]
      simp [Gr.push]
  have e := h os ⟨W.drawn, #[]⟩
  rw [← gr_id] at e
  rw [e]
  simp
theorem run_upd (w : World) (es : Array MapEntry) (c : Nat) (os : List Obj) (k : Int) (v : Value) (hf : Instr.findNow (.int .i64) (.int .i64 k) es.toList 0 = some none) :
    (Instr.mapUpdate 71 (.map (some w.heap.size)) (.int .i64 k) v).run Try.prog (os.foldl World.alloc (w.alloc (.map es c))) = .ok () (os.foldl World.alloc (w.alloc (.map (es.push { key := .int .i64 k, val := v, born := c }) (c + 1)))) := by
  have hb : (os.foldl World.alloc (w.alloc (.map es c))).heap[w.heap.size]? = some (.map es c) := by
    rw [fold_gr, gr_heap _ _ (by simp)]
    exact World.alloc_heap_new w _
  have hc : ∀ W : World, (Instr.checkKey false 10000 3 (.int .i64 k)).run Try.prog W = .ok () W := fun W => MapKept.run_checkKey (k := .int .i64 k) Try.underlying3 (by simp [MapKept.IsKey]) false 9999
  simp [Instr.mapUpdate, run_underlying Try.underlying71, MapKept.run_getObj_map hb, hc, MapKept.run_findKey Try.underlying3 hf, MapKept.run_setObj_map _ hb, Result.andThen]
  rw [fold_gr, fold_gr, heap_set_gr]
  rfl

set_option maxRecDepth 20000 in
theorem words_at (w : World) : Calls Try.prog 26 #[] w fun e w' => e = .returned (.map (some w.heap.size)) ∧ w' = wordsW w := by
  have hm := fun W : World => run_makeMap (P := Try.prog) 71 W
  have u0 : (Instr.mapUpdate 71 (.map (some w.heap.size)) (.int .i64 0) (.slice (some ⟨w.heap.size + 1, 0, none⟩) 6 6)).run Try.prog ((w.alloc (.map #[] 0)).alloc (.cells #[.string ⟨#[115, 121, 110, 99]⟩, .string ⟨#[105, 109, 112, 111, 114, 116]⟩, .string ⟨#[115, 99, 114, 117, 98]⟩, .string ⟨#[115, 116, 111, 112]⟩, .string ⟨#[108, 101, 102, 116]⟩, .string ⟨#[104, 101, 97, 108, 116, 104]⟩] 9)) = .ok () ((w.alloc (.map #[{ key := .int .i64 0, val := .slice (some ⟨w.heap.size + 1, 0, none⟩) 6 6, born := 0 }] 1)).alloc (.cells #[.string ⟨#[115, 121, 110, 99]⟩, .string ⟨#[105, 109, 112, 111, 114, 116]⟩, .string ⟨#[115, 99, 114, 117, 98]⟩, .string ⟨#[115, 116, 111, 112]⟩, .string ⟨#[108, 101, 102, 116]⟩, .string ⟨#[104, 101, 97, 108, 116, 104]⟩] 9)) := run_upd w #[] 0 [.cells #[.string ⟨#[115, 121, 110, 99]⟩, .string ⟨#[105, 109, 112, 111, 114, 116]⟩, .string ⟨#[115, 99, 114, 117, 98]⟩, .string ⟨#[115, 116, 111, 112]⟩, .string ⟨#[108, 101, 102, 116]⟩, .string ⟨#[104, 101, 97, 108, 116, 104]⟩] 9] 0 (.slice (some ⟨w.heap.size + 1, 0, none⟩) 6 6) (by rfl)
  have u1 : (Instr.mapUpdate 71 (.map (some w.heap.size)) (.int .i64 1) (.slice (some ⟨w.heap.size + 1 + 1, 0, none⟩) 11 11)).run Try.prog (((w.alloc (.map #[{ key := .int .i64 0, val := .slice (some ⟨w.heap.size + 1, 0, none⟩) 6 6, born := 0 }] 1)).alloc (.cells #[.string ⟨#[115, 121, 110, 99]⟩, .string ⟨#[105, 109, 112, 111, 114, 116]⟩, .string ⟨#[115, 99, 114, 117, 98]⟩, .string ⟨#[115, 116, 111, 112]⟩, .string ⟨#[108, 101, 102, 116]⟩, .string ⟨#[104, 101, 97, 108, 116, 104]⟩] 9)).alloc (.cells #[.string ⟨#[100, 114, 111, 112]⟩, .string ⟨#[115, 110, 97, 112]⟩, .string ⟨#[100, 101, 115, 116, 114, 111, 121]⟩, .string ⟨#[114, 111, 108, 108]⟩, .string ⟨#[99, 114, 97, 115, 104]⟩, .string ⟨#[108, 111, 115, 101]⟩, .string ⟨#[97, 119, 97, 121]⟩, .string ⟨#[104, 101, 114, 101]⟩, .string ⟨#[114, 101, 115, 105, 108, 118, 101, 114]⟩, .string ⟨#[115, 116, 101, 112, 115]⟩, .string ⟨#[108, 105, 115, 116]⟩] 9)) = .ok () (((w.alloc (.map #[{ key := .int .i64 0, val := .slice (some ⟨w.heap.size + 1, 0, none⟩) 6 6, born := 0 }, { key := .int .i64 1, val := .slice (some ⟨w.heap.size + 1 + 1, 0, none⟩) 11 11, born := 1 }] 2)).alloc (.cells #[.string ⟨#[115, 121, 110, 99]⟩, .string ⟨#[105, 109, 112, 111, 114, 116]⟩, .string ⟨#[115, 99, 114, 117, 98]⟩, .string ⟨#[115, 116, 111, 112]⟩, .string ⟨#[108, 101, 102, 116]⟩, .string ⟨#[104, 101, 97, 108, 116, 104]⟩] 9)).alloc (.cells #[.string ⟨#[100, 114, 111, 112]⟩, .string ⟨#[115, 110, 97, 112]⟩, .string ⟨#[100, 101, 115, 116, 114, 111, 121]⟩, .string ⟨#[114, 111, 108, 108]⟩, .string ⟨#[99, 114, 97, 115, 104]⟩, .string ⟨#[108, 111, 115, 101]⟩, .string ⟨#[97, 119, 97, 121]⟩, .string ⟨#[104, 101, 114, 101]⟩, .string ⟨#[114, 101, 115, 105, 108, 118, 101, 114]⟩, .string ⟨#[115, 116, 101, 112, 115]⟩, .string ⟨#[108, 105, 115, 116]⟩] 9)) := run_upd w #[{ key := .int .i64 0, val := .slice (some ⟨w.heap.size + 1, 0, none⟩) 6 6, born := 0 }] 1 [.cells #[.string ⟨#[115, 121, 110, 99]⟩, .string ⟨#[105, 109, 112, 111, 114, 116]⟩, .string ⟨#[115, 99, 114, 117, 98]⟩, .string ⟨#[115, 116, 111, 112]⟩, .string ⟨#[108, 101, 102, 116]⟩, .string ⟨#[104, 101, 97, 108, 116, 104]⟩] 9, .cells #[.string ⟨#[100, 114, 111, 112]⟩, .string ⟨#[115, 110, 97, 112]⟩, .string ⟨#[100, 101, 115, 116, 114, 111, 121]⟩, .string ⟨#[114, 111, 108, 108]⟩, .string ⟨#[99, 114, 97, 115, 104]⟩, .string ⟨#[108, 111, 115, 101]⟩, .string ⟨#[97, 119, 97, 121]⟩, .string ⟨#[104, 101, 114, 101]⟩, .string ⟨#[114, 101, 115, 105, 108, 118, 101, 114]⟩, .string ⟨#[115, 116, 101, 112, 115]⟩, .string ⟨#[108, 105, 115, 116]⟩] 9] 1 (.slice (some ⟨w.heap.size + 1 + 1, 0, none⟩) 11 11) (by rfl)
  have u2 : (Instr.mapUpdate 71 (.map (some w.heap.size)) (.int .i64 2) (.slice (some ⟨w.heap.size + 1 + 1 + 1, 0, none⟩) 2 2)).run Try.prog ((((w.alloc (.map #[{ key := .int .i64 0, val := .slice (some ⟨w.heap.size + 1, 0, none⟩) 6 6, born := 0 }, { key := .int .i64 1, val := .slice (some ⟨w.heap.size + 1 + 1, 0, none⟩) 11 11, born := 1 }] 2)).alloc (.cells #[.string ⟨#[115, 121, 110, 99]⟩, .string ⟨#[105, 109, 112, 111, 114, 116]⟩, .string ⟨#[115, 99, 114, 117, 98]⟩, .string ⟨#[115, 116, 111, 112]⟩, .string ⟨#[108, 101, 102, 116]⟩, .string ⟨#[104, 101, 97, 108, 116, 104]⟩] 9)).alloc (.cells #[.string ⟨#[100, 114, 111, 112]⟩, .string ⟨#[115, 110, 97, 112]⟩, .string ⟨#[100, 101, 115, 116, 114, 111, 121]⟩, .string ⟨#[114, 111, 108, 108]⟩, .string ⟨#[99, 114, 97, 115, 104]⟩, .string ⟨#[108, 111, 115, 101]⟩, .string ⟨#[97, 119, 97, 121]⟩, .string ⟨#[104, 101, 114, 101]⟩, .string ⟨#[114, 101, 115, 105, 108, 118, 101, 114]⟩, .string ⟨#[115, 116, 101, 112, 115]⟩, .string ⟨#[108, 105, 115, 116]⟩] 9)).alloc (.cells #[.string ⟨#[99, 117, 116]⟩, .string ⟨#[114, 101, 112, 108, 97, 99, 101]⟩] 9)) = .ok () ((((w.alloc (.map #[{ key := .int .i64 0, val := .slice (some ⟨w.heap.size + 1, 0, none⟩) 6 6, born := 0 }, { key := .int .i64 1, val := .slice (some ⟨w.heap.size + 1 + 1, 0, none⟩) 11 11, born := 1 }, { key := .int .i64 2, val := .slice (some ⟨w.heap.size + 1 + 1 + 1, 0, none⟩) 2 2, born := 2 }] 3)).alloc (.cells #[.string ⟨#[115, 121, 110, 99]⟩, .string ⟨#[105, 109, 112, 111, 114, 116]⟩, .string ⟨#[115, 99, 114, 117, 98]⟩, .string ⟨#[115, 116, 111, 112]⟩, .string ⟨#[108, 101, 102, 116]⟩, .string ⟨#[104, 101, 97, 108, 116, 104]⟩] 9)).alloc (.cells #[.string ⟨#[100, 114, 111, 112]⟩, .string ⟨#[115, 110, 97, 112]⟩, .string ⟨#[100, 101, 115, 116, 114, 111, 121]⟩, .string ⟨#[114, 111, 108, 108]⟩, .string ⟨#[99, 114, 97, 115, 104]⟩, .string ⟨#[108, 111, 115, 101]⟩, .string ⟨#[97, 119, 97, 121]⟩, .string ⟨#[104, 101, 114, 101]⟩, .string ⟨#[114, 101, 115, 105, 108, 118, 101, 114]⟩, .string ⟨#[115, 116, 101, 112, 115]⟩, .string ⟨#[108, 105, 115, 116]⟩] 9)).alloc (.cells #[.string ⟨#[99, 117, 116]⟩, .string ⟨#[114, 101, 112, 108, 97, 99, 101]⟩] 9)) := run_upd w #[{ key := .int .i64 0, val := .slice (some ⟨w.heap.size + 1, 0, none⟩) 6 6, born := 0 }, { key := .int .i64 1, val := .slice (some ⟨w.heap.size + 1 + 1, 0, none⟩) 11 11, born := 1 }] 2 [.cells #[.string ⟨#[115, 121, 110, 99]⟩, .string ⟨#[105, 109, 112, 111, 114, 116]⟩, .string ⟨#[115, 99, 114, 117, 98]⟩, .string ⟨#[115, 116, 111, 112]⟩, .string ⟨#[108, 101, 102, 116]⟩, .string ⟨#[104, 101, 97, 108, 116, 104]⟩] 9, .cells #[.string ⟨#[100, 114, 111, 112]⟩, .string ⟨#[115, 110, 97, 112]⟩, .string ⟨#[100, 101, 115, 116, 114, 111, 121]⟩, .string ⟨#[114, 111, 108, 108]⟩, .string ⟨#[99, 114, 97, 115, 104]⟩, .string ⟨#[108, 111, 115, 101]⟩, .string ⟨#[97, 119, 97, 121]⟩, .string ⟨#[104, 101, 114, 101]⟩, .string ⟨#[114, 101, 115, 105, 108, 118, 101, 114]⟩, .string ⟨#[115, 116, 101, 112, 115]⟩, .string ⟨#[108, 105, 115, 116]⟩] 9, .cells #[.string ⟨#[99, 117, 116]⟩, .string ⟨#[114, 101, 112, 108, 97, 99, 101]⟩] 9] 2 (.slice (some ⟨w.heap.size + 1 + 1 + 1, 0, none⟩) 2 2) (by rfl)
  have u3 : (Instr.mapUpdate 71 (.map (some w.heap.size)) (.int .i64 4) (.slice (some ⟨w.heap.size + 1 + 1 + 1 + 1, 0, none⟩) 3 3)).run Try.prog (((((w.alloc (.map #[{ key := .int .i64 0, val := .slice (some ⟨w.heap.size + 1, 0, none⟩) 6 6, born := 0 }, { key := .int .i64 1, val := .slice (some ⟨w.heap.size + 1 + 1, 0, none⟩) 11 11, born := 1 }, { key := .int .i64 2, val := .slice (some ⟨w.heap.size + 1 + 1 + 1, 0, none⟩) 2 2, born := 2 }] 3)).alloc (.cells #[.string ⟨#[115, 121, 110, 99]⟩, .string ⟨#[105, 109, 112, 111, 114, 116]⟩, .string ⟨#[115, 99, 114, 117, 98]⟩, .string ⟨#[115, 116, 111, 112]⟩, .string ⟨#[108, 101, 102, 116]⟩, .string ⟨#[104, 101, 97, 108, 116, 104]⟩] 9)).alloc (.cells #[.string ⟨#[100, 114, 111, 112]⟩, .string ⟨#[115, 110, 97, 112]⟩, .string ⟨#[100, 101, 115, 116, 114, 111, 121]⟩, .string ⟨#[114, 111, 108, 108]⟩, .string ⟨#[99, 114, 97, 115, 104]⟩, .string ⟨#[108, 111, 115, 101]⟩, .string ⟨#[97, 119, 97, 121]⟩, .string ⟨#[104, 101, 114, 101]⟩, .string ⟨#[114, 101, 115, 105, 108, 118, 101, 114]⟩, .string ⟨#[115, 116, 101, 112, 115]⟩, .string ⟨#[108, 105, 115, 116]⟩] 9)).alloc (.cells #[.string ⟨#[99, 117, 116]⟩, .string ⟨#[114, 101, 112, 108, 97, 99, 101]⟩] 9)).alloc (.cells #[.string ⟨#[119, 114, 105, 116, 101]⟩, .string ⟨#[115, 112, 111, 105, 108]⟩, .string ⟨#[114, 101, 97, 100]⟩] 9)) = .ok () (((((w.alloc (.map #[{ key := .int .i64 0, val := .slice (some ⟨w.heap.size + 1, 0, none⟩) 6 6, born := 0 }, { key := .int .i64 1, val := .slice (some ⟨w.heap.size + 1 + 1, 0, none⟩) 11 11, born := 1 }, { key := .int .i64 2, val := .slice (some ⟨w.heap.size + 1 + 1 + 1, 0, none⟩) 2 2, born := 2 }, { key := .int .i64 4, val := .slice (some ⟨w.heap.size + 1 + 1 + 1 + 1, 0, none⟩) 3 3, born := 3 }] 4)).alloc (.cells #[.string ⟨#[115, 121, 110, 99]⟩, .string ⟨#[105, 109, 112, 111, 114, 116]⟩, .string ⟨#[115, 99, 114, 117, 98]⟩, .string ⟨#[115, 116, 111, 112]⟩, .string ⟨#[108, 101, 102, 116]⟩, .string ⟨#[104, 101, 97, 108, 116, 104]⟩] 9)).alloc (.cells #[.string ⟨#[100, 114, 111, 112]⟩, .string ⟨#[115, 110, 97, 112]⟩, .string ⟨#[100, 101, 115, 116, 114, 111, 121]⟩, .string ⟨#[114, 111, 108, 108]⟩, .string ⟨#[99, 114, 97, 115, 104]⟩, .string ⟨#[108, 111, 115, 101]⟩, .string ⟨#[97, 119, 97, 121]⟩, .string ⟨#[104, 101, 114, 101]⟩, .string ⟨#[114, 101, 115, 105, 108, 118, 101, 114]⟩, .string ⟨#[115, 116, 101, 112, 115]⟩, .string ⟨#[108, 105, 115, 116]⟩] 9)).alloc (.cells #[.string ⟨#[99, 117, 116]⟩, .string ⟨#[114, 101, 112, 108, 97, 99, 101]⟩] 9)).alloc (.cells #[.string ⟨#[119, 114, 105, 116, 101]⟩, .string ⟨#[115, 112, 111, 105, 108]⟩, .string ⟨#[114, 101, 97, 100]⟩] 9)) := run_upd w #[{ key := .int .i64 0, val := .slice (some ⟨w.heap.size + 1, 0, none⟩) 6 6, born := 0 }, { key := .int .i64 1, val := .slice (some ⟨w.heap.size + 1 + 1, 0, none⟩) 11 11, born := 1 }, { key := .int .i64 2, val := .slice (some ⟨w.heap.size + 1 + 1 + 1, 0, none⟩) 2 2, born := 2 }] 3 [.cells #[.string ⟨#[115, 121, 110, 99]⟩, .string ⟨#[105, 109, 112, 111, 114, 116]⟩, .string ⟨#[115, 99, 114, 117, 98]⟩, .string ⟨#[115, 116, 111, 112]⟩, .string ⟨#[108, 101, 102, 116]⟩, .string ⟨#[104, 101, 97, 108, 116, 104]⟩] 9, .cells #[.string ⟨#[100, 114, 111, 112]⟩, .string ⟨#[115, 110, 97, 112]⟩, .string ⟨#[100, 101, 115, 116, 114, 111, 121]⟩, .string ⟨#[114, 111, 108, 108]⟩, .string ⟨#[99, 114, 97, 115, 104]⟩, .string ⟨#[108, 111, 115, 101]⟩, .string ⟨#[97, 119, 97, 121]⟩, .string ⟨#[104, 101, 114, 101]⟩, .string ⟨#[114, 101, 115, 105, 108, 118, 101, 114]⟩, .string ⟨#[115, 116, 101, 112, 115]⟩, .string ⟨#[108, 105, 115, 116]⟩] 9, .cells #[.string ⟨#[99, 117, 116]⟩, .string ⟨#[114, 101, 112, 108, 97, 99, 101]⟩] 9, .cells #[.string ⟨#[119, 114, 105, 116, 101]⟩, .string ⟨#[115, 112, 111, 105, 108]⟩, .string ⟨#[114, 101, 97, 100]⟩] 9] 4 (.slice (some ⟨w.heap.size + 1 + 1 + 1 + 1, 0, none⟩) 3 3) (by rfl)
  go_enter Try.func26, Try.ntmps26
  go_wp2_with fail
  go_ret
  exact ⟨rfl, rfl⟩

/-- maps.All: lays the map in a block of its own, hands back the iterator -/
theorem All_at (b : Nat) (w : World) :
    Calls Try.prog 25 #[.map (some b)] w fun e w' => e = .returned (.func (.func 42) #[] #[.pointer (some ⟨w.heap.size, 0, none⟩)]) ∧ w' = w.alloc (.cells #[.map (some b)] 71) := by
  go_enter Try.func25, Try.ntmps25
  go_wp2_with fail
  go_ret
  exact ⟨rfl, rfl⟩

def itSeen (w : World) (b : Nat) : Nat := match w.heap[b]? with
  | some (.mapIter _ _ seen _) => seen.size
  | _ => 0
def full4 (xs : List Nat) : Prop := xs.Nodup ∧ ∀ i, i ∈ xs ↔ i < 4
theorem full4_of {l : List Nat} (hn : l.Nodup) (hl : ∀ i ∈ l, i < 4) : ∃ xs, full4 xs ∧ l <+: xs := by
  refine ⟨l ++ (List.range 4).filter (fun i => !(l.contains i)), ⟨?_, fun i => ?_⟩, List.prefix_append _ _⟩
  · refine List.nodup_append.2 ⟨hn, List.nodup_range.filter _, fun a ha b hb e => ?_⟩
    subst e
    simp at hb
    exact hb.2 ha
  · by_cases h : i ∈ l
    · simp [h, hl i h]
    · simp [h]
theorem nodup_lt : ∀ (n : Nat) (l : List Nat), l.Nodup → (∀ i ∈ l, i < n) → l.length ≤ n
  | 0, l, _, h => by
    cases l with
    | nil => simp
    | cons a l => exact absurd (h a (by simp)) (by omega)
  | n + 1, l, hn, h => by
    by_cases hm : n ∈ l
    · have h1 := nodup_lt n (l.erase n) (hn.erase n) (fun i hi => by
        have h2 := (List.Nodup.mem_erase_iff hn).1 hi
        have := h i h2.2
        have := h2.1
        omega)
      rw [List.length_erase_of_mem hm] at h1
      omega
    · exact Nat.le_succ_of_le (nodup_lt n l hn fun i hi => by
        have := h i hi
        have : i ≠ n := fun e => hm (e ▸ hi)
        omega)
theorem full4_done {l : List Nat} (hn : l.Nodup) (hl : ∀ i ∈ l, i < 4) (h : ∀ i, i < 4 → i ∈ l) : full4 l := ⟨hn, fun i => ⟨hl i, h i⟩⟩

def encT (B i : Nat) : Array Value := #[.int .i64 (keyT i : Int), .slice (some ⟨B + 1 + i, 0, none⟩) (wsT i).length (wsT i).length]
@[go_sem] theorem eg_all1 (args : Array Value) (w : World) : (callFunc 42 args).run Try.prog w = .ok (.enter 42 args) w := enters_of Try.func42 (by kernel_rfl) rfl args w

attribute [local go_sem] Oper.semAt_some
theorem esT_mem {B : Nat} {e : MapEntry} (h : e ∈ (esT B).toList) : ∃ i, i < 4 ∧ e = entT B i := by
  simp [esT] at h
  rcases h with rfl | rfl | rfl | rfl
  · exact ⟨0, by omega, rfl⟩
  · exact ⟨1, by omega, rfl⟩
  · exact ⟨2, by omega, rfl⟩
  · exact ⟨3, by omega, rfl⟩
theorem esT_mem' (B i : Nat) (h : i < 4) : entT B i ∈ (esT B).toList := by
  rcases (show i = 0 ∨ i = 1 ∨ i = 2 ∨ i = 3 by omega) with rfl | rfl | rfl | rfl <;> simp [esT]

theorem setBlock_at (W : World) (r : Nat) (o : Obj) (h : r < W.heap.size) : (setBlock W r o).heap[r]? = some o := by
  show (W.heap.setIfInBounds r o)[r]? = some o
  simp [h]
theorem setBlock_below (W : World) (r : Nat) (o : Obj) (B : Nat) (hB : B ≤ r) : Below B W (setBlock W r o) := by
  refine ⟨rfl, rfl, rfl, ?_, fun k hk => ?_⟩
  · show W.heap.size ≤ (W.heap.setIfInBounds r o).size
    simp
  · show (W.heap.setIfInBounds r o)[k]? = W.heap[k]?
    rw [Array.getElem?_setIfInBounds, if_neg (by omega)]
/-- the iterator, over the words' map: the four entries come, in some order -/
theorem All1_own (B Bm : Nat) (w : World) : SeqOwnK Try.prog 42 #[.pointer (some ⟨Bm, 0, none⟩)] (encT B) full4
    (fun W => W.cell? ⟨Bm, 0, none⟩ = some (.map (some B)) ∧ W.heap[B]? = some (.map (esT B) 4)) w := by
  intro l J Jx W hW hJ hJx hKp hY h0
  have hk0 := hKp _ _ h0
  have hc := hk0.1
  have hrg := run_range_map (P := Try.prog) W 71 3 72 B (esT B) 4 Try.underlying71 hk0.2
  refine (callsIn_wide (n := 3)).1 ?_
  refine callsIn_of_wp Try.func42 rfl trivial ?_ rfl
  simp only [Try.ntmps42, List.size_toArray, List.length_cons, List.length_nil, Nat.reduceAdd, Nat.reduceSub, Array.replicate_succ, Array.replicate_zero, List.push_toArray, List.append_toArray, List.nil_append, List.cons_append]
  have hBlt : B < W.heap.size := (Array.getElem?_eq_some_iff.1 hk0.2).1
  have hbw : Below W.heap.size W (W.alloc (.mapIter (some B) 4 #[] 4)) := belowAlloc (Below.refl _ _) _
  have hJ1 := hJ _ _ _ h0 hbw
  have hr1 : (W.alloc (.mapIter (some B) 4 #[] 4)).heap[W.heap.size]? = some (.mapIter (some B) 4 #[] 4) := World.alloc_heap_new _ _
  gi_wp2
  gi_loopw [7] (fun _ wr => ∃ pre : List Nat, pre.Nodup ∧ (∀ i ∈ pre, i < 4) ∧ wr.heap[W.heap.size]? = some (.mapIter (some B) 4 pre.toArray 4) ∧ J pre wr)
    (fun _ wr => 4 - itSeen wr W.heap.size)
  case atStart => exact ⟨[], by simp, by simp, hr1, hJ1⟩
  case round =>
    obtain ⟨pre, hn, hl, hr, hJp⟩ := hrel
    have hk := hKp _ _ hJp
    have hsz : itSeen wr W.heap.size = pre.length := by simp [itSeen, hr]
    rcases run_next_at (P := Try.prog) wr 0 W.heap.size B 4 4 pre.toArray (esT B) 4 hr hk.2 (fun e he => by obtain ⟨i, hi, rfl⟩ := esT_mem he; exact hi) (Nat.le_refl _) with ⟨hz, hnx⟩ | ⟨e, he, w1, hw1, hnx⟩
    · have hall : ∀ i, i < 4 → i ∈ pre := fun i hi => by
        by_cases h : i ∈ pre
        · exact h
        · exfalso
          have hm : entT B i ∈ (leftOf (esT B) pre.toArray) := by
            unfold leftOf
            rw [Array.mem_filter]
            exact ⟨by simpa using esT_mem' B i hi, by simpa [entT] using h⟩
          have := Array.eq_empty_of_size_eq_zero hz
          rw [this] at hm
          simp at hm
      gi_wp2
      go_end0
      exact ⟨⟨_, rfl⟩, .inl ⟨pre, full4_done hn hl hall, hJp⟩⟩
    · have hmem : e ∈ (esT B).toList ∧ e.born ∉ pre := by
        have hm : e ∈ (leftOf (esT B) pre.toArray) := by simpa using he
        unfold leftOf at hm
        rw [Array.mem_filter] at hm
        exact ⟨by simpa using hm.1, by simpa using hm.2⟩
      obtain ⟨i, hi, rfl⟩ := esT_mem hmem.1
      have hni : i ∉ pre := hmem.2
      have hrlt : W.heap.size < wr.heap.size := (Array.getElem?_eq_some_iff.1 hr).1
      obtain ⟨W2, hW2⟩ : ∃ W2, setBlock w1 W.heap.size (.mapIter (some B) 4 (pre.toArray.push (entT B i).born) 4) = W2 := ⟨_, rfl⟩
      have hb1 : Below W.heap.size wr w1 := by
        rcases hw1 with h | h
        · rw [h]; exact Below.refl _ _
        · rw [h]; exact Below.drew (Below.refl _ _)
      have hr1' : W.heap.size < w1.heap.size := by
        have := hb1.size
        omega
      have hr2 : W2.heap[W.heap.size]? = some (.mapIter (some B) 4 (pre.toArray.push (entT B i).born) 4) := by
        rw [← hW2]; exact setBlock_at _ _ _ hr1'
      have hbw2 : Below W.heap.size wr W2 := by
        rw [← hW2]; exact hb1.trans (setBlock_below _ _ _ _ (Nat.le_refl _))
      have hkB : W2.heap[B]? = some (.map (esT B) 4) := (hbw2.block B hBlt).trans hk.2
      have hent := run_entry_at (P := Try.prog) W2 W.heap.size B 4 pre.toArray (esT B) 4 (entT B i) hr2 hkB (esT_mem' B i hi) (by simp [esT, entT])
      have hJ2 := hJ _ _ _ hJp hbw2
      rw [hW2] at hnx
      clear hW2 hw1 he hmem
      obtain ⟨fn, tmps, assign, body, hy, hYR⟩ := hY 2 pre i W2 hJ2 (full4_of (List.nodup_append.2 ⟨hn, by simp, fun a ha b hb e => by simp at hb; subst hb; subst e; exact hni ha⟩) (fun k hk => by
        rcases List.mem_append.1 hk with h | h
        · exact hl k h
        · simp at h; subst h; exact hi))
      dsimp only [encT] at hy
      simp only [entT] at hnx hent
      gi_wp2
      refine hYR.mono ?_
      rintro e W3 (⟨rfl, hJ3, hk3⟩ | ⟨rfl, hJx3⟩)
      · have hr3 : W3.heap[W.heap.size]? = some (.mapIter (some B) 4 (pre ++ [i]).toArray 4) := by
          rw [hk3.same _ (Nat.le_refl _) (Array.getElem?_eq_some_iff.1 hr2).1, hr2]
          simp [entT]
        have hs3 : itSeen W3 W.heap.size = pre.length + 1 := by simp [itSeen, hr3]
        have hlen : pre.length < 4 := by
          have := nodup_lt 4 (pre ++ [i]) (List.nodup_append.2 ⟨hn, by simp, fun a ha b hb e => by simp at hb; subst hb; subst e; exact hni ha⟩) (fun k hk => by
            rcases List.mem_append.1 hk with h | h
            · exact hl k h
            · simp at h; subst h; exact hi)
          simp at this
          omega
        gi_wp2
        go_roundw
        case rel =>
          refine ⟨pre ++ [i], List.nodup_append.2 ⟨hn, by simp, fun a ha b hb e => by simp at hb; subst hb; subst e; exact hni ha⟩, fun k hk => ?_, hr3, hJ3⟩
          rcases List.mem_append.1 hk with h | h
          · exact hl k h
          · simp at h; subst h; exact hi
        case measure => rw [hs3, hsz]; omega
      · gi_wp2
        refine bodyPost_ret (results_none rfl _ _ _) rfl ?_
        obtain ⟨xs, hx, hp⟩ := full4_of (l := pre ++ [i]) (List.nodup_append.2 ⟨hn, by simp, fun a ha b hb e => by simp at hb; subst hb; subst e; exact hni ha⟩) (fun k hk => by
          rcases List.mem_append.1 hk with h | h
          · exact hl k h
          · simp at h; subst h; exact hi)
        exact ⟨⟨_, rfl⟩, .inr ⟨_, xs, hx, hp, hJx3⟩⟩

end Go.Proofs.Ytajionjffijffaa

/-
  fletch.more, Sum, More: a text's sum is the sums' recurrence over its words.
-/
import Derived.Test.YtnflakaphbjbhaaWords
namespace Go.Proofs.Ytnflakaphbjbhaa
open Go.RowKit Go.Sort

abbrev MM : Nat := 18446744073709551616
structure S4 where
  a : Nat
  b : Nat
  c : Nat
  d : Nat
deriving DecidableEq
def S4.cs (x : S4) : Array Value := #[.int .u64 x.a, .int .u64 x.b, .int .u64 x.c, .int .u64 x.d]
def S4.v (x : S4) : Value := .agg x.cs
def S4.ok (x : S4) : Prop := x.a < MM ∧ x.b < MM ∧ x.c < MM ∧ x.d < MM
def S4.step (x : S4) (w : Nat) : S4 :=
  ⟨(x.a + w) % MM, (x.b + (x.a + w) % MM) % MM, (x.c + (x.b + (x.a + w) % MM) % MM) % MM, (x.d + (x.c + (x.b + (x.a + w) % MM) % MM) % MM) % MM⟩
theorem S4.step_ok (x : S4) (w : Nat) : (x.step w).ok := by
  refine ⟨?_, ?_, ?_, ?_⟩ <;> exact Nat.mod_lt _ (by decide)
def sums (x : S4) (ws : List Nat) : S4 := ws.foldl S4.step x
theorem sums_snoc (x : S4) (ws : List Nat) (w : Nat) : sums x (ws ++ [w]) = (sums x ws).step w := by simp [sums]
theorem sums_append (x : S4) (us ws : List Nat) : sums x (us ++ ws) = sums (sums x us) ws := by simp [sums]
theorem sums_ok {x : S4} (h : x.ok) : ∀ ws : List Nat, (sums x ws).ok
  | [] => h
  | w :: ws => sums_ok (x := x.step w) (x.step_ok w) ws
theorem wrap_add (a b : Nat) : IntKind.u64.wrap ((a : Int) + (b : Int)) = (((a + b) % MM : Nat) : Int) := by
  rw [IntKind.wrap_u64]; simp [MM]
def zero4 : S4 := ⟨0, 0, 0, 0⟩
theorem zero4_ok : zero4.ok := by refine ⟨?_, ?_, ?_, ?_⟩ <;> decide

attribute [local go_sem] Oper.semAt_some

theorem gr_heap_past (W W' : World) (g : Gr) (D : Nat) (hs : W.heap.size = W'.heap.size) (hD : W.heap.size ≤ D) : (gr W g).heap[D]? = (gr W' g).heap[D]? := by
  simp only [gr, grow, redrawn]
  rw [Array.getElem?_append_right (by exact hD), Array.getElem?_append_right (by show W'.heap.size ≤ D; omega)]
  show g.os[D - W.heap.size]? = g.os[D - W'.heap.size]?
  rw [hs]

/-- within a round -/
def nxt (p : S4 × Nat) : Nat → S4 × Nat
  | 0 => (⟨(p.1.a + p.2) % MM, p.1.b, p.1.c, p.1.d⟩, (p.1.a + p.2) % MM)
  | 1 => (⟨p.1.a, (p.1.b + p.2) % MM, p.1.c, p.1.d⟩, (p.1.b + p.2) % MM)
  | 2 => (⟨p.1.a, p.1.b, (p.1.c + p.2) % MM, p.1.d⟩, (p.1.c + p.2) % MM)
  | _ => (⟨p.1.a, p.1.b, p.1.c, (p.1.d + p.2) % MM⟩, (p.1.d + p.2) % MM)
def prt (y : S4) (x : Nat) : Nat → S4 × Nat
  | 0 => (y, x)
  | k + 1 => nxt (prt y x k) k
theorem prt_four (y : S4) (x : Nat) : (prt y x 4).1 = y.step x := rfl

/-- the caller's world between two rounds -/
def moreW (w : World) (s : ByteArray) (x : S4) : World := ((w.alloc (.cells x.cs 29)).alloc (.cells zero4.cs 29)).alloc (.cells #[.string s] 9)
theorem moreW_size (w : World) (s : ByteArray) (x : S4) : (moreW w s x).heap.size = w.heap.size + 3 := by simp [moreW]

set_option maxHeartbeats 1000000 in
theorem more_any (x : S4) (hx : x.ok) (s : ByteArray) (hs : s.size < 4611686018427387900) :
    Pure Try.prog 22 #[x.v, .string s] (sums x (wordsL (pad4 s))).v := by
  intro w
  refine (callsIn_wide (n := 3)).1 ?_
  obtain ⟨a, b, c, d⟩ := x
  refine callsIn_of_wp_marks Try.func22 rfl trivial ?_ rfl
  simp only [Try.ntmps22, List.size_toArray, List.length_cons, List.length_nil, Nat.reduceAdd, Nat.reduceSub, Array.replicate_succ, Array.replicate_zero, List.push_toArray, List.append_toArray, List.nil_append, List.cons_append, S4.v, S4.cs]
  gi_wp2_with (refine ⟨trivial, ?_⟩; gi_at_call 19; refine (callsIn_wide.2 (Words_at _ _)).mono ?_; rintro e w' ⟨rfl, rfl⟩)
  have hbw : ∀ x : S4, Below w.heap.size w (moreW w s x) := fun x => belowAlloc (belowAlloc (belowAlloc (Below.refl _ _) _) _) _
  have hW0 : Hid ((((w.alloc (.cells #[.int .u64 (a : Int), .int .u64 (b : Int), .int .u64 (c : Int), .int .u64 (d : Int)] 29)).alloc (.cells #[.int .u64 0, .int .u64 0, .int .u64 0, .int .u64 0] 29)).alloc (.cells #[.string s] 9)) = moreW w s ⟨a, b, c, d⟩) := rfl
  rw [hW0.out]
  refine wpIn_range_own (gf := 26) (lb := #[.pointer (some ⟨w.heap.size + 1 + 1, 0, none⟩)]) rfl eg_words1
    (Words1_own s hs (w.heap.size + 1 + 1) (moreW w s ⟨a, b, c, d⟩) (by rw [moreW_size]; omega) (by simp [moreW, go_sem])) (Below.refl _ _) (fun _ => rfl)
    (fun pre W => ∃ g : Gr, W = gr (moreW w s (sums ⟨a, b, c, d⟩ pre)) g) (fun _ _ _ => False)
    (from_gr (fun pre => moreW w s (sums ⟨a, b, c, d⟩ pre)) (fun _ => by rw [moreW_size, moreW_size])) (fun _ => from_pure _)
    (ex_gr _)
    (fun x => { tmps := #[.agg #[.int .u64 (a : Int), .int .u64 (b : Int), .int .u64 (c : Int), .int .u64 (d : Int)],
          .string s, .pointer (some ⟨w.heap.size, 0, none⟩), undef, .pointer (some ⟨w.heap.size + 1, 0, none⟩), .int .u64 (x : Int), undef, .string s,
          .func (.func 26) #[] #[.pointer (some ⟨w.heap.size + 1 + 1, 0, none⟩)], .int .u64 (x : Int), undef,
          undef, undef, undef, undef, undef, undef, undef, undef, undef, undef, undef, undef, undef], defers := [] }) ?assign ?body ?done ?stop
  case assign =>
    intro l m x W K hK
    gi_wp2
    exact hK
  case body =>
    rintro l m pre x W ⟨g, rfl⟩ _
    have hfin : ∀ W' : World, (∃ g : Gr, W' = gr (moreW w s ((sums ⟨a, b, c, d⟩ pre).step x)) g) → ∃ g : Gr, W' = gr (moreW w s (sums ⟨a, b, c, d⟩ (pre ++ [x]))) g := fun W' h => by rw [sums_snoc]; exact h
    have HF := Lib.hid hfin
    clear hfin
    generalize sums ⟨a, b, c, d⟩ pre = y at *
    obtain ⟨Y, hY⟩ : ∃ Y, y = Y := ⟨_, rfl⟩
    rw [hY] at HF ⊢
    clear hY
    gi_wp2
    gi_loopw [5, 10] (fun v i wr => ∃ k : Nat, k ≤ 4 ∧ i = .int .i64 k ∧ v = .int .u64 ((prt Y x k).2 : Int) ∧ wr = gr (moreW w s (prt Y x k).1) g)
      (fun _ i _ => 4 - (intOf i).toNat)
    case atStart => exact ⟨0, by omega, rfl, rfl, rfl⟩
    case round =>
      obtain ⟨k, hk, rfl, rfl, rfl⟩ := hrel
      obtain ⟨⟨⟨p0, p1, p2, p3⟩, q⟩, hp⟩ : ∃ p, prt Y x k = p := ⟨_, rfl⟩
      rw [hp]
      have hm : moreW w s ⟨p0, p1, p2, p3⟩ = (((w.alloc (.cells #[.int .u64 (p0 : Int), .int .u64 (p1 : Int), .int .u64 (p2 : Int), .int .u64 (p3 : Int)] 29)).alloc (.cells #[.int .u64 0, .int .u64 0, .int .u64 0, .int .u64 0] 29)).alloc (.cells #[.string s] 9)) := rfl
      simp only []
      rw [hm]
      have HP := Lib.hid hp
      clear hp hm
      rcases (show k = 0 ∨ k = 1 ∨ k = 2 ∨ k = 3 ∨ k = 4 by omega) with rfl | rfl | rfl | rfl | rfl
      · have e : prt Y x 1 = (⟨(p0 + q) % MM, p1, p2, p3⟩, (p0 + q) % MM) := by rw [prt, HP.out]; rfl
        have HE := Lib.hid e
        clear e
        gi_wp2
        go_roundw
        case rel => exact ⟨1, by omega, rfl, by rw [HE.out, wrap_add], by rw [HE.out, wrap_add]; rfl⟩
        case measure => simp [intOf]
      · have e : prt Y x 2 = (⟨p0, (p1 + q) % MM, p2, p3⟩, (p1 + q) % MM) := by rw [prt, HP.out]; rfl
        have HE := Lib.hid e
        clear e
        gi_wp2
        go_roundw
        case rel => exact ⟨2, by omega, rfl, by rw [HE.out, wrap_add], by rw [HE.out, wrap_add]; rfl⟩
        case measure => simp [intOf]
      · have e : prt Y x 3 = (⟨p0, p1, (p2 + q) % MM, p3⟩, (p2 + q) % MM) := by rw [prt, HP.out]; rfl
        have HE := Lib.hid e
        clear e
        gi_wp2
        go_roundw
        case rel => exact ⟨3, by omega, rfl, by rw [HE.out, wrap_add], by rw [HE.out, wrap_add]; rfl⟩
        case measure => simp [intOf]
      · have e : prt Y x 4 = (⟨p0, p1, p2, (p3 + q) % MM⟩, (p3 + q) % MM) := by rw [prt, HP.out]; rfl
        have HE := Lib.hid e
        clear e
        gi_wp2
        go_roundw
        case rel => exact ⟨4, by omega, rfl, by rw [HE.out, wrap_add], by rw [HE.out, wrap_add]; rfl⟩
        case measure => simp [intOf]
      · have e : ⟨p0, p1, p2, p3⟩ = Y.step x := by rw [← prt_four, HP.out]
        have hk4 : Kept (moreW w s ⟨a, b, c, d⟩).heap.size (gr (moreW w s Y) g) (gr (moreW w s ⟨p0, p1, p2, p3⟩) g) :=
          ⟨by rw [gr_size, gr_size, moreW_size, moreW_size]; omega, fun k hk _ => gr_heap_past _ _ g k (by rw [moreW_size, moreW_size]) (by rw [moreW_size] at hk ⊢; exact hk)⟩
        gi_wp2
        exact ⟨hk4, HF.out _ ⟨g, by rw [← e]; rfl⟩⟩
  case done =>
    rintro D ys W hD rfl ⟨g, rfl⟩ hK
    rw [moreW_size] at hD
    generalize sums ⟨a, b, c, d⟩ (wordsL (pad4 s)) = z at *
    obtain ⟨z0, z1, z2, z3⟩ := z
    have hm : moreW w s ⟨z0, z1, z2, z3⟩ = (((w.alloc (.cells #[.int .u64 (z0 : Int), .int .u64 (z1 : Int), .int .u64 (z2 : Int), .int .u64 (z3 : Int)] 29)).alloc (.cells #[.int .u64 0, .int .u64 0, .int .u64 0, .int .u64 0] 29)).alloc (.cells #[.string s] 9)) := rfl
    obtain ⟨W2, hW2⟩ : ∃ W2, (((w.alloc (.cells #[.int .u64 (z0 : Int), .int .u64 (z1 : Int), .int .u64 (z2 : Int), .int .u64 (z3 : Int)] 29)).alloc (.cells #[.int .u64 (z0 : Int), .int .u64 (z1 : Int), .int .u64 (z2 : Int), .int .u64 (z3 : Int)] 29)).alloc (.cells #[.string s] 9)) = W2 := ⟨_, rfl⟩
    have hs2 : W2.heap.size = w.heap.size + 3 := by rw [← hW2]; simp
    have hK2 : (gr W2 g).heap[D]? = some (.deferred (some [])) := (gr_heap_past _ _ g D (by rw [hs2, moreW_size]) (by omega)).trans hK
    rw [hm]
    have HK := Lib.hid hK2
    clear hK hK2 hm
    gi_wp2
    refine ⟨by simp, .inl ⟨_, _, rfl, run_takeDeferred HK.out, ?_⟩⟩
    have hcell : ((gr W2 g).putObj D (.deferred none)).heap[w.heap.size + 1]? = some (.cells #[.int .u64 (z0 : Int), .int .u64 (z1 : Int), .int .u64 (z2 : Int), .int .u64 (z3 : Int)] 29 (0, 0)) := by
      rw [World.putObj_heap_other (by omega), gr_heap _ _ (by omega), ← hW2, Below.heap_alloc _ _ _ (by simp)]
      have h := World.alloc_heap_new (w.alloc (.cells #[.int .u64 (z0 : Int), .int .u64 (z1 : Int), .int .u64 (z2 : Int), .int .u64 (z3 : Int)] 29)) (.cells #[.int .u64 (z0 : Int), .int .u64 (z1 : Int), .int .u64 (z2 : Int), .int .u64 (z3 : Int)] 29)
      rwa [World.size_alloc] at h
    refine ⟨_, results_cell_row rfl _ _ (w.heap.size + 1) 29 _ _ _ rfl hcell Try.underlying29 rfl (by kernel_rfl), rfl, ?_⟩
    have hb2 : Below w.heap.size w (gr W2 g) := by
      rw [← hW2]; (repeat' (first | (with_reducible exact Below.refl _ _) | (with_reducible refine belowGrU ?_ _) | (with_reducible refine belowAlloc ?_ _) | (with_reducible refine Below.setCell ?_ ?_ _) | (with_reducible refine Below.drew ?_) | (simp [go_sem]; done) | (simp [go_sem]; omega)))
    exact hb2.trans (below_put _ D _ _ (by omega) HK.out hb2.size)
  case stop =>
    rintro D c pre W _ _ h _
    exact h.elim

/-- Sum -/
theorem Sum_any (s : ByteArray) (hs : s.size < 4611686018427387900) : Pure Try.prog 10 #[.string s] (sums zero4 (wordsL (pad4 s))).v := by
  intro w
  have c : Pure Try.prog 22 #[.agg #[.int .u64 0, .int .u64 0, .int .u64 0, .int .u64 0], .string s] (sums zero4 (wordsL (pad4 s))).v := more_any zero4 zero4_ok s hs
  generalize sums zero4 (wordsL (pad4 s)) = z at c ⊢
  obtain ⟨z0, z1, z2, z3⟩ := z
  simp only [S4.v, S4.cs] at c ⊢
  go_enter Try.func10, Try.ntmps10
  go_wp2_with (go_at_call 22; with_reducible refine (c.at _).mono ?_; rintro e w' ⟨rfl, g, rfl⟩)
  have hcell : (gr (w.alloc (.cells #[.int .u64 (z0 : Int), .int .u64 (z1 : Int), .int .u64 (z2 : Int), .int .u64 (z3 : Int)] 29)) g).heap[w.heap.size]? = some (.cells #[.int .u64 (z0 : Int), .int .u64 (z1 : Int), .int .u64 (z2 : Int), .int .u64 (z3 : Int)] 29 (0, 0)) := by
    rw [gr_heap _ _ (by simp)]; exact World.alloc_heap_new _ _
  exact bodyPost_ret (results_cell_row rfl _ _ w.heap.size 29 _ _ _ rfl hcell Try.underlying29 rfl (by kernel_rfl)) rfl (Ret.mk rfl (by (repeat' (first | (with_reducible exact Below.refl _ _) | (with_reducible refine belowGrU ?_ _) | (with_reducible refine belowAlloc ?_ _) | (with_reducible refine Below.setCell ?_ ?_ _) | (with_reducible refine Below.drew ?_) | (simp [go_sem]; done) | (simp [go_sem]; omega)))))

end Go.Proofs.Ytnflakaphbjbhaa

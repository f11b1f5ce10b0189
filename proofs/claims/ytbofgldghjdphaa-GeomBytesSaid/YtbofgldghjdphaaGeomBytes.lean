/-
  GeomBytes: two right measures have the same bytes just if they are alike. No condition.
-/
import Derived.Test.YtbofgldghjdphaaGeomLaw
import Derived.Test.YtbofgldghjdphaaLe
import Derived.Deep.DeepCutAuto
namespace Go.Proofs.Ytbofgldghjdphaa
open Go.RowKit Go.ChangeShapes Go.WideShapes Go.ChangeAt Go.Joins

namespace GeomBytes

/-- a measure's bytes: its head, and k groups -/
def bytesG (s : Slc) (secs : Int) : Nat → ByteArray
  | 0 => leS s.len 4 ++ leS secs 4
  | k + 1 => bytesG s secs k ++ (leS (s.x k) 4 ++ leS (s.y k) 4)
@[go_sem] theorem bytesG_size (s : Slc) (secs : Int) (k : Nat) : (bytesG s secs k).size = 8 + 8 * k := by
  induction k with
  | zero => simp [bytesG, ByteArray.size_append, leS_size]
  | succ k ih => simp only [bytesG, ByteArray.size_append, leS_size, ih]; omega
theorem bytesG_inj {s t : Slc} {p q : Int} (hp : 0 ≤ p ∧ p ≤ 4294967295) (hq : 0 ≤ q ∧ q ≤ 4294967295) (hs : s.len ≤ 4294967295) (ht : t.len ≤ 4294967295) : ∀ k,
    (∀ j, j < k → (0 ≤ s.x j ∧ s.x j ≤ 4294967295 ∧ 0 ≤ s.y j ∧ s.y j ≤ 4294967295) ∧ (0 ≤ t.x j ∧ t.x j ≤ 4294967295 ∧ 0 ≤ t.y j ∧ t.y j ≤ 4294967295)) →
    bytesG s p k = bytesG t q k → p = q ∧ s.len = t.len ∧ ∀ j, j < k → s.x j = t.x j ∧ s.y j = t.y j
  | 0, _, h => by
    obtain ⟨h1, h2⟩ := append_inj_size h (by rw [leS_size, leS_size])
    have := leS4_inj (by omega) (by omega) (by omega) (by omega) h1
    exact ⟨leS4_inj hp.1 hp.2 hq.1 hq.2 h2, by omega, fun j hj => by omega⟩
  | k + 1, hb, h => by
    obtain ⟨h1, h2⟩ := append_inj_size h (by rw [bytesG_size, bytesG_size])
    obtain ⟨h3, h4⟩ := append_inj_size h2 (by rw [leS_size, leS_size])
    obtain ⟨e1, e2, e3⟩ := bytesG_inj hp hq hs ht k (fun j hj => hb j (by omega)) h1
    have b := hb k (by omega)
    refine ⟨e1, e2, fun j hj => ?_⟩
    by_cases e : j = k
    · subst e
      exact ⟨leS4_inj b.1.1 b.1.2.1 b.2.1 b.2.2.1 h3, leS4_inj b.1.2.2.1 b.1.2.2.2 b.2.2.2.1 b.2.2.2.2 h4⟩
    · exact e3 j (by omega)
theorem bytesG_congr {s t : Slc} {p : Int} (hl : s.len = t.len) : ∀ k, (∀ j, j < k → s.x j = t.x j ∧ s.y j = t.y j) → bytesG s p k = bytesG t p k
  | 0, _ => by simp only [bytesG, hl]
  | k + 1, h => by
    simp only [bytesG]
    rw [bytesG_congr hl k (fun j hj => h j (by omega)), (h k (by omega)).1, (h k (by omega)).2]

set_option maxHeartbeats 1000000 in
theorem bytes_yes {s : Slc} {secs : Int} (h : goodG s secs) (w : World) [m : GM s w] :
    Calls Try.prog 14 #[.agg #[.slice s.ad s.len s.cap, .int .i64 secs]] w (Ret (.string (bytesG s secs s.len)) w) := by
  have HR := Lib.hid (fun (w : World) [GM s w] => right_yes h w)
  have hl := h.2.1
  have h3 := h.2.2.1
  have h4 := h.2.2.2.1
  have HG := Lib.hid h
  clear h
  go_enter Try.func14, Try.ntmps14
  go_wp2_with (go_at_call 10; with_reducible refine (Calls.at (HR.out _)).mono ?_; rintro e w' ⟨rfl, g, rfl⟩)
  have c1 := U32_any (s.len : Int) (by omega) (by omega)
  have c2 := U32_any secs (by omega) (by omega)
  refine wp_region_gr2 (by kernel_rfl) (by kernel_rfl) ?_
  repeat (go_big_quiet_step (first | (with_reducible exact c1.inClass _ _) | (with_reducible exact c2.inClass _ _)))
  refine wpQuiet_nil ?_
  rintro _ ⟨g2, rfl⟩
  go_wp2_with fail
  go_loopw [3, 20] (fun v i wr => ∃ k : Nat, k ≤ s.len ∧ i = .int .i64 k ∧ v = .string (bytesG s secs k) ∧ ∃ g' : Gr, wr = gr (w.alloc (.cells #[.slice s.ad s.len s.cap, .int .i64 secs] 24)) g')
    (fun _ i _ => s.len - (intOf i).toNat)
  case atStart => exact ⟨0, Nat.zero_le _, rfl, rfl, _, rfl⟩
  case round =>
    obtain ⟨k, hk, rfl, rfl, g', rfl⟩ := hrel
    by_cases hlt : k < s.len
    · have hcx := m.c0 k hlt
      have hcy := m.c1 k hlt
      have hix := ix_grp m hlt
      haveI hbo := m.isOld hlt
      have hw := wide_of HG.out hlt
      have c3 := U32_any (s.x k) (by omega) (by omega)
      have c4 := U32_any (s.y k) (by omega) (by omega)
      clear c1 c2
      have hwx := Lib.hid hw.2.2
      have hw1 := hw.1
      have hw2 := hw.2.1
      clear hw
      go_wp2_with fail
      refine wp_region_gr (by kernel_rfl) (by kernel_rfl) ?_
      repeat (go_big_quiet_step (first | (with_reducible exact c3.inClass _ _) | (with_reducible exact c4.inClass _ _)))
      refine wpQuiet_nil ?_
      rintro _ ⟨g5, rfl⟩
      go_wp2_with fail
      go_roundw
      case rel => exact ⟨k + 1, by omega, by go_num, rfl, ex_gr_alloc _ _ _ _⟩
      case measure => simp [intOf]; omega
    · obtain rfl : s.len = k := by omega
      go_wp2_with fail
      go_ret
      exact Ret.mk rfl (by (repeat' (first | (with_reducible exact Below.refl _ _) | (with_reducible refine belowGrU ?_ _) | (with_reducible refine belowAlloc ?_ _) | (with_reducible refine Below.setCell ?_ ?_ _) | (with_reducible refine Below.drew ?_) | (simp [go_sem]; done) | (simp [go_sem]; omega))))

/-- alike: -/
theorem ba_inj {a b : ByteArray} (h : a.toList = b.toList) : a = b := by
  rw [ByteArray.toList_eq, ByteArray.toList_eq] at h
  exact toList_inj h
def alike (s t : Slc) (p q : Int) : Prop := p = q ∧ s.len = t.len ∧ ∀ j, j < s.len → s.x j = t.x j ∧ s.y j = t.y j
theorem run_eql_grp (w : World) (a b c d : Int) : (binOp .eql 29 (.agg #[.int .i64 a, .int .i64 b]) (.agg #[.int .i64 c, .int .i64 d])).run Try.prog w = .ok (.bool (a == c && b == d)) w := by
  by_cases h1 : a = c <;> by_cases h2 : b = d <;> simp [go_sem, h1, h2]
theorem bytes_alike {s t : Slc} {p q : Int} (hs : goodG s p) (ht : goodG t q) : bytesG s p s.len = bytesG t q t.len ↔ alike s t p q := by
  have l1 := hs.2.1
  have l2 := ht.2.1
  have l3 := hs.2.2.1
  have l4 := hs.2.2.2.1
  have l5 := ht.2.2.1
  have l6 := ht.2.2.2.1
  constructor
  · intro h
    have hz := congrArg ByteArray.size h
    rw [bytesG_size, bytesG_size] at hz
    have hl : s.len = t.len := by omega
    rw [← hl] at h
    refine bytesG_inj (by omega) (by omega) (by omega) (by omega) s.len (fun j hj => ?_) h
    have w1 := wide_of hs hj
    have w2 := wide_of ht (k := j) (by omega)
    omega
  · rintro ⟨rfl, hl, h⟩
    rw [← hl]
    exact bytesG_congr hl s.len h

/-- what the loop has come to -/
def St (s t : Slc) (p q : Int) (k : Nat) (b : Bool) : Prop := (b = true → p = q ∧ s.len = t.len ∧ ∀ j, j < k → s.x j = t.x j ∧ s.y j = t.y j) ∧ (b = false → ¬ alike s t p q)

set_option maxHeartbeats 2000000 in
theorem walk_yes {s t : Slc} {p q : Int} (hg : goodG s p) (hh : goodG t q) (w : World) [m : GM s w] [m2 : GM t w] :
    Calls Try.prog 6 #[.agg #[.slice s.ad s.len s.cap, .int .i64 p], .agg #[.slice t.ad t.len t.cap, .int .i64 q]] w (Ret (.bool true) w) := by
  have HR := Lib.hid (fun (w : World) [GM s w] => right_yes hg w)
  have HR2 := Lib.hid (fun (w : World) [GM t w] => right_yes hh w)
  have HB := Lib.hid (fun (w : World) [GM s w] => bytes_yes hg w)
  have HB2 := Lib.hid (fun (w : World) [GM t w] => bytes_yes hh w)
  have HA := Lib.hid (bytes_alike hg hh)
  have HZ := Lib.hid (bytesG_size s p s.len)
  have l1 := hg.2.1
  have l2 := hh.2.1
  clear hg hh
  have he := run_eql_grp
  have h0 : ∃ b : Bool, b = (p == q && (s.len : Int) == t.len) := ⟨_, rfl⟩
  generalize bytesG s p s.len = A at *
  generalize bytesG t q t.len = B at *
  go_enter Try.func6, Try.ntmps6
  go_upto_region 3 with (first | (go_at_call 8; with_reducible refine (awake_any.at _).mono ?_; rintro e w' ⟨rfl, g, rfl⟩) | (go_at_call 10; (first | (with_reducible refine (Calls.at (HR.out _)).mono ?_) | (with_reducible refine (Calls.at (HR2.out _)).mono ?_)); rintro e w' ⟨rfl, g, rfl⟩))
  go_cut [5] (fun v wx => ∃ b : Bool, v = .bool b ∧ St s t p q 0 b ∧ ∃ g' : Gr, wx = gr ((w.alloc (.cells #[.slice s.ad s.len s.cap, .int .i64 p] 24)).alloc (.cells #[.slice t.ad t.len t.cap, .int .i64 q] 24)) g')
  case first =>
    by_cases e1 : p = q
    · have e1' : (p == q) = true := by simp [e1]
      have E1 := Lib.hid e1
      clear e1
      by_cases e2 : s.len = t.len
      · have e2' : ((s.len : Int) == (t.len : Int)) = true := by simp [e2]
        have E2 := Lib.hid e2
        clear e2
        go_wp2_with fail
        go_meet
        exact ⟨true, rfl, ⟨fun _ => ⟨E1.out, E2.out, fun j hj => by omega⟩, (fun h => by cases h)⟩, _, rfl⟩
      · have e2' : ((s.len : Int) == (t.len : Int)) = false := by rw [beq_eq_false_iff_ne]; omega
        have E2 := Lib.hid e2
        clear e2
        go_wp2_with fail
        go_meet
        exact ⟨false, rfl, ⟨(fun h => by cases h), fun _ h => E2.out h.2.1⟩, _, rfl⟩
    · have e1' : (p == q) = false := by simp [e1]
      have E1 := Lib.hid e1
      clear e1
      go_wp2_with fail
      go_meet
      exact ⟨false, rfl, ⟨(fun h => by cases h), fun _ h => E1.out h.1⟩, _, rfl⟩
  case rest =>
    obtain ⟨b, rfl, hst, g', rfl⟩ := hcut
    have Hst := Lib.hid hst
    clear hst
    go_wp2_with fail
    go_loopw [5, 6] (fun v i wr => ∃ (k : Nat) (b : Bool), k ≤ s.len ∧ i = .int .i64 k ∧ v = .bool b ∧ St s t p q k b ∧ ∃ g' : Gr, wr = gr ((w.alloc (.cells #[.slice s.ad s.len s.cap, .int .i64 p] 24)).alloc (.cells #[.slice t.ad t.len t.cap, .int .i64 q] 24)) g')
      (fun _ i _ => s.len - (intOf i).toNat)
    case atStart => exact ⟨0, b, Nat.zero_le _, rfl, rfl, Hst.out, _, rfl⟩
    case round =>
      obtain ⟨k, b, hk, rfl, rfl, hst, g', rfl⟩ := hrel
      have Hs2 := Lib.hid hst
      clear hst
      cases b
      · have hno : (A.toList == B.toList) = false := by
          rw [beq_eq_false_iff_ne]
          intro h
          exact Hs2.out.2 rfl (HA.out.1 (ba_inj h))
        by_cases hlt : k < s.len
        all_goals
          have hzz : ((A.size : Int) == 8 + 8 * (s.len : Int)) = true := by rw [beq_iff_eq, HZ.out]; omega
          go_wp2_with fail
          refine wp_region_gr2 (by kernel_rfl) (by kernel_rfl) ?_
          repeat (go_big_quiet_step (first | (with_reducible exact Calls.inClass (HB.out _)) | (with_reducible exact Calls.inClass (HB2.out _))))
          refine wpQuiet_nil ?_
          rintro _ ⟨g5, rfl⟩
          go_wp2_with fail
          go_ret
          exact Ret.mk rfl (by (repeat' (first | (with_reducible exact Below.refl _ _) | (with_reducible refine belowGrU ?_ _) | (with_reducible refine belowAlloc ?_ _) | (with_reducible refine Below.setCell ?_ ?_ _) | (with_reducible refine Below.drew ?_) | (simp [go_sem]; done) | (simp [go_sem]; omega))))

      · by_cases hlt : k < s.len
        · have hlt2 : k < t.len := by have := (Hs2.out.1 rfl).2.1; omega
          have hcx := m.c0 k hlt
          have hcy := m.c1 k hlt
          have hix := ix_grp m hlt
          haveI hbo := m.isOld hlt
          have hcx2 := m2.c0 k hlt2
          have hcy2 := m2.c1 k hlt2
          have hix2 := ix_grp m2 hlt2
          haveI hbo2 := m2.isOld hlt2
          by_cases e : s.x k = t.x k ∧ s.y k = t.y k
          · have E := Lib.hid e
            have ee : (s.x k == t.x k && s.y k == t.y k) = true := by simp [e]
            clear e
            go_wp2_with fail
            refine wp_region_gr2 (by kernel_rfl) (by kernel_rfl) ?_
            repeat (go_big_quiet_step (fail))
            refine wpQuiet_nil ?_
            rintro _ ⟨g5, rfl⟩
            go_wp2_with fail
            go_roundw
            case rel => exact ⟨k + 1, true, by omega, by go_num, rfl, ⟨fun _ => ⟨(Hs2.out.1 rfl).1, (Hs2.out.1 rfl).2.1, fun j hj => (by
              by_cases ej : j = k
              · subst ej; exact E.out
              · exact (Hs2.out.1 rfl).2.2 j (by omega))⟩, (fun h => by cases h)⟩, _, rfl⟩
            case measure => simp [intOf]; omega
          · have E := Lib.hid e
            have ee : (s.x k == t.x k && s.y k == t.y k) = false := by rw [← Bool.not_eq_true]; simpa using e
            clear e
            go_wp2_with fail
            refine wp_region_gr2 (by kernel_rfl) (by kernel_rfl) ?_
            repeat (go_big_quiet_step (fail))
            refine wpQuiet_nil ?_
            rintro _ ⟨g5, rfl⟩
            go_wp2_with fail
            go_roundw
            case rel => exact ⟨k + 1, false, by omega, by go_num, rfl, ⟨(fun h => by cases h), fun _ h => E.out (h.2.2 k hlt)⟩, _, rfl⟩
            case measure => simp [intOf]; omega
        · obtain rfl : s.len = k := by omega
          have hno : (A.toList == B.toList) = true := by
            rw [beq_iff_eq, HA.out.2 (Hs2.out.1 rfl)]
          have hzz : ((A.size : Int) == 8 + 8 * (s.len : Int)) = true := by rw [beq_iff_eq, HZ.out]; omega
          go_wp2_with fail
          refine wp_region_gr2 (by kernel_rfl) (by kernel_rfl) ?_
          repeat (go_big_quiet_step (first | (with_reducible exact Calls.inClass (HB.out _)) | (with_reducible exact Calls.inClass (HB2.out _))))
          refine wpQuiet_nil ?_
          rintro _ ⟨g5, rfl⟩
          go_wp2_with fail
          go_ret
          exact Ret.mk rfl (by (repeat' (first | (with_reducible exact Below.refl _ _) | (with_reducible refine belowGrU ?_ _) | (with_reducible refine belowAlloc ?_ _) | (with_reducible refine Below.setCell ?_ ?_ _) | (with_reducible refine Below.drew ?_) | (simp [go_sem]; done) | (simp [go_sem]; omega))))

theorem walk_no {s t : Slc} {p q : Int} (h : ¬ (goodG s p ∧ goodG t q)) (hs : s.len ≤ 9223372036854775807) (ht : t.len ≤ 9223372036854775807) (w : World) [m : GM s w] [m2 : GM t w] :
    Calls Try.prog 6 #[.agg #[.slice s.ad s.len s.cap, .int .i64 p], .agg #[.slice t.ad t.len t.cap, .int .i64 q]] w (Ret (.bool true) w) := by
  by_cases hg : goodG s p
  · have HR := Lib.hid (fun (w : World) [GM s w] => right_yes hg w)
    have HR2 := Lib.hid (fun (w : World) [GM t w] => right_no (fun hh => h ⟨hg, hh⟩) ht w)
    clear h hg
    go_enter Try.func6, Try.ntmps6
    go_wp2_with (first | (go_at_call 8; with_reducible refine (awake_any.at _).mono ?_; rintro e w' ⟨rfl, g, rfl⟩) | (go_at_call 10; (first | (with_reducible refine (Calls.at (HR.out _)).mono ?_) | (with_reducible refine (Calls.at (HR2.out _)).mono ?_)); rintro e w' ⟨rfl, g, rfl⟩))
    go_ret
    exact Ret.mk rfl (by (repeat' (first | (with_reducible exact Below.refl _ _) | (with_reducible refine belowGrU ?_ _) | (with_reducible refine belowAlloc ?_ _) | (with_reducible refine Below.setCell ?_ ?_ _) | (with_reducible refine Below.drew ?_) | (simp [go_sem]; done) | (simp [go_sem]; omega))))

  · have HR := Lib.hid (fun (w : World) [GM s w] => right_no hg hs w)
    clear h hg
    go_enter Try.func6, Try.ntmps6
    go_wp2_with (first | (go_at_call 8; with_reducible refine (awake_any.at _).mono ?_; rintro e w' ⟨rfl, g, rfl⟩) | (go_at_call 10; (first | (with_reducible refine (Calls.at (HR.out _)).mono ?_)); rintro e w' ⟨rfl, g, rfl⟩))
    go_ret
    exact Ret.mk rfl (by (repeat' (first | (with_reducible exact Below.refl _ _) | (with_reducible refine belowGrU ?_ _) | (with_reducible refine belowAlloc ?_ _) | (with_reducible refine Below.setCell ?_ ?_ _) | (with_reducible refine Below.drew ?_) | (simp [go_sem]; done) | (simp [go_sem]; omega))))

theorem lawWalk : LawWalk 6 Try.f6.params := by
  intro H enc W base args ds p hval hA _ _
  rw [Try.params6] at hA hval
  obtain ⟨v0, v1, d0, d1, p0, p1, rfl, rfl, rfl, h0, h1⟩ := trodAll_two hA
  obtain ⟨s, p, rfl, hs, hm, _⟩ := open_geom (hval 0 24 v0 rfl rfl) h0
  obtain ⟨t, q, rfl, ht, hm2, _⟩ := open_geom (hval 1 24 v1 rfl rfl) h1
  haveI := hm
  haveI := hm2
  by_cases h : goodG s p ∧ goodG t q
  · exact walk_yes h.1 h.2 W
  · exact walk_no h hs ht W

set_option maxRecDepth 100000 in
theorem holds : Rows.GeomBytesSaid :=
  OpenClaim.holds_of_wide 6 Try.f6 rfl rfl rfl rfl rfl rfl rfl ⟨rfl, rfl, rfl, rfl, rfl⟩ rfl rfl rfl rfl rfl (by kernel_rfl) Try.func6 (by kernel_rfl)
    (of_decide_eq_true (by kernel_rfl)) (by unfold Func.isWrapper; first | (rw [if_pos (by decide +kernel)]; kernel_rfl) | (rw [if_neg (by decide +kernel)]; exact ⟨rfl, rfl⟩))
    (fun os started H enc _ => law_lifted (s := Rows.geomBytesSpec) started (by kernel_rfl) Try.func6 rfl rfl Try.underlying4 (by kernel_rfl)
      (fun ds h => by
        rw [Try.params6] at h
        match ds, h with
        | [d1, d2], _ => rfl)
      (ChangeSpec.witness6 (enc := enc) (C := Try.checked) false ⟨#[], #[.agg #[.slice none 0 0, .int .i64 0], .agg #[.slice none 0 0, .int .i64 0]], []⟩ 8 (by kernel_rfl) (by kernel_rfl) (by kernel_rfl) (by kernel_rfl))
      lawWalk)
#print axioms holds

end GeomBytes
end Go.Proofs.Ytbofgldghjdphaa

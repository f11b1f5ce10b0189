/-
  polderref25.Line; polderlaw25.ScriptNear.
-/
import Derived.OwnWalk
import Derived.Test.YtajionjffijffaaNearP
namespace Go.Proofs.Ytajionjffijffaa
open Go.RowKit Go.Sort

theorem ofL_extract (t : ByteArray) (a b : Nat) : t.extract a b = ofL ((t.data.toList.drop a).take (b - a)) := by
  apply ba_ext
  rw [ofL_list, ByteArray.data_extract, Array.toList_extract]

/-- the text is looked at up to i, and has no end so far -/
def Scan (L : List UInt8) (p i : Nat) : Prop := lineLen (L.drop p) = (i - p) + lineLen (L.drop i) ∧ (10 : UInt8) ∉ (L.drop p).take (i - p)
theorem Scan.start (L : List UInt8) (p : Nat) : Scan L p p := ⟨by omega, by simp⟩
theorem Scan.next {L : List UInt8} {p i : Nat} (h : Scan L p i) (hp : p ≤ i) (hi : i < L.length) (hb : L[i] ≠ 10) : Scan L p (i + 1) := by
  obtain ⟨h1, h2⟩ := h
  rw [List.drop_eq_getElem_cons hi, lineLen, if_neg hb] at h1
  refine ⟨by omega, ?_⟩
  rw [show i + 1 - p = (i - p) + 1 by omega, List.take_add_one, List.getElem?_drop, show p + (i - p) = i by omega, List.getElem?_eq_getElem hi]
  simp only [Option.toList_some, List.mem_append, List.mem_singleton, not_or]
  exact ⟨h2, fun e => hb e.symm⟩
theorem Scan.hit {L : List UInt8} {p i : Nat} (h : Scan L p i) (hp : p ≤ i) (hi : i < L.length) (hb : L[i] = 10) :
    lineLen (L.drop p) = i - p + 1 ∧ (L.drop p).take (lineLen (L.drop p)) = (L.drop p).take (i - p) ++ [10] := by
  obtain ⟨h1, h2⟩ := h
  rw [List.drop_eq_getElem_cons hi, lineLen, if_pos hb] at h1
  refine ⟨h1, ?_⟩
  rw [h1, List.take_add_one, List.getElem?_drop, show p + (i - p) = i by omega, List.getElem?_eq_getElem hi, hb]
  rfl
theorem Scan.over {L : List UInt8} {p : Nat} (h : Scan L p L.length) :
    lineLen (L.drop p) = L.length - p ∧ (L.drop p).take (lineLen (L.drop p)) = L.drop p ∧ (10 : UInt8) ∉ L.drop p := by
  obtain ⟨h1, h2⟩ := h
  rw [List.drop_length, lineLen, Nat.add_zero] at h1
  have h3 : (L.drop p).take (L.length - p) = L.drop p := List.take_of_length_le (by simp)
  rw [h3] at h2
  exact ⟨h1, by rw [h1, h3], h2⟩
theorem text_hit (l : List UInt8) : textOf (l ++ [10]) = ofL l ∧ endedOf (l ++ [10]) = true := by
  have h : Lib.hasSuffix (l ++ [10]) [10] = true := by
    unfold Lib.hasSuffix
    rw [List.isSuffixOf_iff_suffix]
    exact List.suffix_append _ _
  refine ⟨?_, h⟩
  unfold textOf Lib.trimSuffix
  rw [if_pos h]
  simp
theorem text_over (l : List UInt8) (hn : (10 : UInt8) ∉ l) : textOf l = ofL l ∧ endedOf l = false := by
  have h : Lib.hasSuffix l [10] = false := by
    unfold Lib.hasSuffix
    rw [← Bool.not_eq_true, List.isSuffixOf_iff_suffix]
    exact fun hs => hn (hs.subset (by simp))
  refine ⟨?_, h⟩
  unfold textOf Lib.trimSuffix
  rw [if_neg (by rw [h]; simp)]

/-- the line at p -/
def lineX (t : ByteArray) (p : Nat) : List UInt8 := (t.data.toList.drop p).take (lineLen (t.data.toList.drop p))
set_option maxRecDepth 20000 in
set_option maxHeartbeats 1000000 in
theorem Line_any (t : ByteArray) (ht : t.size < 100000) (p : Nat) (hp : p ≤ t.size) :
    Pure Try.prog 10 #[.string t, .int .i64 (p : Int)] (.tuple #[.string (textOf (lineX t p)), .int .i64 ((p + lineLen (t.data.toList.drop p) : Nat) : Int), .bool (endedOf (lineX t p))]) := by
  intro w
  have hL := size_list t
  go_enter Try.func10, Try.ntmps10
  go_wp2_with fail
  go_loopw [7] (fun i wr => ∃ j : Nat, p ≤ j ∧ j ≤ t.size ∧ i = .int .i64 (j : Int) ∧ Scan t.data.toList p j ∧ ∃ g : Gr, wr = gr w g) (fun i _ => t.size - (intOf i).toNat)
  case atStart => exact ⟨p, by omega, hp, rfl, Scan.start _ _, ex_gr _⟩
  case round =>
    obtain ⟨j, hpj, hj, rfl, hS, g, rfl⟩ := hrel
    by_cases hlt : j < t.size
    · have hjl : j < t.data.toList.length := by omega
      have hbe : t.data.toList[j] = t[j] := by simp; rfl
      by_cases hb : t[j] = 10
      · obtain ⟨a1, a2⟩ := hS.hit hpj hjl (hbe.trans hb)
        obtain ⟨b1, b2⟩ := text_hit ((t.data.toList.drop p).take (j - p))
        have e1 : textOf (lineX t p) = t.extract p j := by rw [lineX, a2, b1, ofL_extract]
        have e2 : ((p + lineLen (t.data.toList.drop p) : Nat) : Int) = (j : Int) + 1 := by rw [a1]; omega
        have e3 : endedOf (lineX t p) = true := by rw [lineX, a2, b2]
        have hb1 : ((t[j].toNat : Int) == 10) = true := by rw [hb]; rfl
        clear a1 a2 b1 b2 hS
        go_wp2_with fail
        go_ret3
        exact Ret.mk (by rw [e1, e2, e3]; rfl) (by (repeat' (first | (with_reducible exact Below.refl _ _) | (with_reducible refine belowGrU ?_ _) | (with_reducible refine belowAlloc ?_ _) | (with_reducible refine Below.setCell ?_ ?_ _) | (with_reducible refine Below.drew ?_) | (simp [go_sem]; done) | (simp [go_sem]; omega))))
      · have hS2 := hS.next hpj hjl (by rw [hbe]; exact hb)
        have hb1 : ((t[j].toNat : Int) == 10) = false := by
          rw [beq_eq_false_iff_ne]
          intro e
          exact hb (UInt8.toNat_inj.1 (by have : (10 : UInt8).toNat = 10 := rfl; omega))
        go_wp2_with fail
        exact ⟨⟨j + 1, by omega, by omega, by go_num, hS2, g, rfl⟩, by simp [intOf]; omega⟩
    · obtain rfl : j = t.size := by omega
      have hS' : Scan t.data.toList p t.data.toList.length := by rw [hL]; exact hS
      obtain ⟨a1, a2, a3⟩ := hS'.over
      obtain ⟨b1, b2⟩ := text_over _ a3
      have e1 : textOf (lineX t p) = t.extract p t.size := by
        rw [lineX, a2, b1, ofL_extract, List.take_of_length_le (by simp)]
      have e2 : ((p + lineLen (t.data.toList.drop p) : Nat) : Int) = (t.size : Int) := by rw [a1, hL]; omega
      have e3 : endedOf (lineX t p) = false := by rw [lineX, a2, b2]
      clear hS hS' a1 a2 a3 b1 b2
      go_wp2_with fail
      go_ret3
      exact Ret.mk (by rw [e1, e2, e3]; rfl) (by (repeat' (first | (with_reducible exact Below.refl _ _) | (with_reducible refine belowGrU ?_ _) | (with_reducible refine belowAlloc ?_ _) | (with_reducible refine Below.setCell ?_ ?_ _) | (with_reducible refine Below.drew ?_) | (simp [go_sem]; done) | (simp [go_sem]; omega))))

theorem near_of (t : ByteArray) (ht : t.size ≤ 6000) :
    ((parseS t).2.1 = 0 ∧ (parseS t).2.2.1 = 0) ∨
    ((parseS t).2.2.2 ≠ 0 ∧ ∃ k : Nat, (parseS t).2.1 = 1 + k ∧ k ≤ t.size ∧ okR k t.data.toList ∧ 1 ≤ (parseS t).2.2.1 ∧ (parseS t).2.2.1 ≤ (runesN (adv k t.data.toList) : Int) + 1) := by
  unfold parseS
  rw [if_neg (by omega)]
  rcases near t.data.toList.length t.data.toList (Nat.le_refl _) noSc 0 (by omega) with h | ⟨h0, k, h1, _, h2, h3, h4⟩
  · exact .inl h
  · exact .inr ⟨h0, k, by rw [h1]; omega, by rw [← size_list]; exact h2, h3, h4⟩

set_option maxRecDepth 100000 in
set_option maxHeartbeats 4000000 in
theorem near_walk (t : ByteArray) (ht : t.size ≤ 9223372036854775807) : Pure Try.prog 3 #[.string t] (.bool true) := by
  intro w
  by_cases hl : 6000 < t.size
  · go_enter Try.func3, Try.ntmps3
    go_wp2_with (go_at_call 8; with_reducible refine (awake_any.at _).mono ?_; rintro e w' ⟨rfl, g, rfl⟩)
    all_goals (try (exfalso; omega))
    all_goals go_ret
    all_goals exact Ret.mk rfl (by (repeat' (first | (with_reducible exact Below.refl _ _) | (with_reducible refine belowGrU ?_ _) | (with_reducible refine belowAlloc ?_ _) | (with_reducible refine Below.setCell ?_ ?_ _) | (with_reducible refine Below.drew ?_) | (simp [go_sem]; done) | (simp [go_sem]; omega))))
  · have ht : t.size < 4611686018427387900 := by omega
    have hn := near_of t (by omega)
    have cP := fun W : World => Parse_at t ht W
    obtain ⟨⟨s, line, col, er⟩, hT⟩ : ∃ T, parseS t = T := ⟨_, rfl⟩
    rw [hT] at cP hn
    simp only at cP hn
    clear hT
    rcases hn with ⟨rfl, rfl⟩ | ⟨hne, k, rfl, hk, hok, hc1, hc2⟩
    · obtain ⟨β, hβ⟩ : ∃ β, (er == 0) = β := ⟨_, rfl⟩
      cases β
      all_goals (
        go_enter Try.func3, Try.ntmps3
        go_wp2_with (first
          | (go_at_call 8; with_reducible refine (awake_any.at _).mono ?_; rintro e w' ⟨rfl, g, rfl⟩)
          | (go_at_call 9; refine (cP _).mono ?_; rintro e W' ⟨vG, vL, rfl, hG, hL, hbel⟩; obtain ⟨adG, capG, rfl⟩ := ownsRow_len hG; obtain ⟨adL, capL, rfl⟩ := ownsRow_len hL)))
      all_goals (try (exfalso; omega))
      all_goals go_ret
      all_goals exact Ret.mk rfl (Below.alloc ((below_gr w g).trans (hbel.mono (by rw [gr_size]; omega))) (by have := hbel.size; rw [gr_size] at this; omega) _)
    · have hne1 : (er == 0) = false := by simpa using hne
      have hl0 : ((1 + (k : Int)) == 0) = false := by rw [beq_eq_false_iff_ne]; omega
      go_enter Try.func3, Try.ntmps3
      go_wp2_with (first
        | (go_at_call 8; with_reducible refine (awake_any.at _).mono ?_; rintro e w' ⟨rfl, g, rfl⟩)
        | (go_at_call 9; refine (cP _).mono ?_; rintro e W' ⟨vG, vL, rfl, hG, hL, hbel⟩; obtain ⟨adG, capG, rfl⟩ := ownsRow_len hG; obtain ⟨adL, capL, rfl⟩ := ownsRow_len hL))
      all_goals (try (exfalso; omega))
      have hbV : Below w.heap.size w (W'.alloc (.cells #[.slice adG s.gs.length capG, .int .i64 s.secs, .slice adL s.xs.length capL] 28)) := Below.alloc ((below_gr w g).trans (hbel.mono (by rw [gr_size]; omega))) (by have := hbel.size; rw [gr_size] at this; omega) _
      generalize (W'.alloc (.cells #[.slice adG s.gs.length capG, .int .i64 s.secs, .slice adL s.xs.length capL] 28)) = V at hbV ⊢
      have hsz := size_list t
      obtain ⟨E, hE⟩ : ∃ E, adv k t.data.toList = E := ⟨_, rfl⟩
      rw [hE] at hc2
      clear hG hL hbel cP hl0 hne1 hne
      go_loopw [7, 8] (fun a i wr => ∃ (p n : Nat), 1 ≤ n ∧ n ≤ k + 1 ∧ p ≤ t.size ∧ a = .int .i64 (p : Int) ∧ i = .int .i64 (n : Int) ∧ Hid (okR (k + 1 - n) (t.data.toList.drop p) ∧ adv (k + 1 - n) (t.data.toList.drop p) = E) ∧ ∃ g' : Gr, wr = gr V g')
        (fun _ i _ => k + 1 - (intOf i).toNat)
      case atStart => exact ⟨0, 1, by omega, by omega, by omega, rfl, rfl, Lib.hid ⟨by simpa using hok, by simpa using hE⟩, ex_gr _⟩
      case round =>
        obtain ⟨p, n, h1n, hnk, hp, rfl, rfl, HH, g', rfl⟩ := hrel
        have cL := Line_any t (by omega) p hp
        have hts : (textOf (lineX t p)).size ≤ t.size := by
          have h1 := trim_len (lineX t p)
          have h2 : (lineX t p).length ≤ t.size := by unfold lineX; rw [List.length_take, List.length_drop]; omega
          omega
        have hll : p + lineLen (t.data.toList.drop p) ≤ t.size := by
          have := lineLen_le (t.data.toList.drop p)
          rw [List.length_drop] at this
          omega
        obtain ⟨Q, hQ⟩ : ∃ Q, p + lineLen (t.data.toList.drop p) = Q := ⟨_, rfl⟩
        rw [hQ] at cL hll
        by_cases hlt : n < k + 1
        · obtain ⟨m, hm⟩ : ∃ m, k + 1 - n = m + 1 := ⟨k - n, by omega⟩
          have hh := HH.out
          rw [hm] at hh
          obtain ⟨⟨ha, hb⟩, hc⟩ := hh
          rw [adv] at hc
          rw [List.drop_drop, hQ] at hb hc
          have hmn : k + 1 - (n + 1) = m := by omega
          have HH2 : Hid (okR (k + 1 - (n + 1)) (t.data.toList.drop Q) ∧ adv (k + 1 - (n + 1)) (t.data.toList.drop Q) = E) := by rw [hmn]; exact Lib.hid ⟨hb, hc⟩
          have he : m = 0 ∨ endedOf (lineX t p) = true := ha
          clear HH ha hb hc
          cases hen : endedOf (lineX t p) with
          | true =>
            rw [hen] at cL
            clear he
            go_wp2_with (go_at_call 10; with_reducible refine (cL.at _).mono ?_; rintro e w' ⟨rfl, g2, rfl⟩)
            all_goals (try (exfalso; omega))
            exact ⟨⟨Q, n + 1, by omega, by omega, hll, rfl, by go_num, HH2, _, rfl⟩, by simp [intOf]; omega⟩
          | false =>
            rw [hen] at cL
            have hnk2 : ¬ ((n : Int) < k) := by rcases he with h | h; omega; rw [hen] at h; cases h
            clear he
            go_wp2_with (go_at_call 10; with_reducible refine (cL.at _).mono ?_; rintro e w' ⟨rfl, g2, rfl⟩)
            all_goals (try (exfalso; omega))
            exact ⟨⟨Q, n + 1, by omega, by omega, hll, rfl, by go_num, HH2, _, rfl⟩, by simp [intOf]; omega⟩
        · obtain rfl : n = k + 1 := by omega
          have hc := HH.out.2
          rw [Nat.sub_self, adv] at hc
          have hcN : col ≤ ((runes (textOf (lineX t p))).length : Int) + 1 := by unfold lineX; rw [hc]; exact hc2
          clear HH hE hok hk
          generalize textOf (lineX t p) = X at *
          generalize endedOf (lineX t p) = eb at *
          have hrl : (runes X).length ≤ X.size := runesF_len X X.size 0
          go_wp2_with (go_at_call 10; with_reducible refine (cL.at _).mono ?_; rintro e w' ⟨rfl, g2, rfl⟩)
          all_goals (try (exfalso; omega))
          go_loopw [15] (fun r wr => ∃ pos N : Nat, r = .int .i64 (N : Int) ∧ N + (runesAt X pos).length = (runes X).length ∧ ∃ g3 : Gr, wr = gr ((gr V (g'.seq g2)).alloc (.stringIter X pos)) g3)
            (fun _ wr => X.size - itPos wr (gr V (g'.seq g2)).heap.size)
          case atStart => exact ⟨0, 0, rfl, by rw [Nat.zero_add]; rfl, ex_gr _⟩
          case round =>
            obtain ⟨pos, N, rfl, hN, g3, rfl⟩ := hrel
            by_cases hlt : pos < X.size
            · rw [runesAt_step X pos hlt, List.length_cons] at hN
              have hw := Lib.width_pos X pos
              go_wp2_with fail
              go_roundw
              case rel => exact ⟨_, N + 1, by go_num, by omega, g3, rfl⟩
              case measure =>
                rw [itPos_gr _ _ _ _ _ rfl, itPos_gr _ _ _ _ _ rfl]
                omega
            · rw [runesAt_end X pos (by omega), List.length_nil] at hN
              have hb : X.size ≤ pos := by omega
              have hcc : col ≤ (N : Int) + 1 := by omega
              have hNb : N ≤ 6000 := by omega
              have hVs := hbV.size
              clear hcN hN
              go_wp2_with fail
              all_goals (try (exfalso; omega))
              all_goals go_ret
              all_goals refine Ret.mk (by first | rfl | (show Value.bool _ = _; simp [hcc, hc1])) ?_
              all_goals exact belowGr' (belowAlloc' (belowGr' hbV _) _) _

end Go.Proofs.Ytajionjffijffaa

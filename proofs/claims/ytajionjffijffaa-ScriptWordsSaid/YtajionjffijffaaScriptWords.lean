/-
  Each word has as many numbers as it is written with; with one more, or one fewer, it isn't read. For every text and number.
-/
import Derived.Test.YtajionjffijffaaDec
import Derived.Test.YtajionjffijffaaRow
namespace Go.Proofs.Ytajionjffijffaa
open Go.RowKit Go.Sort Go.ChangeShapes Go.WideShapes Go.ChangeAt Go.Joins Go.ChangeMaps
namespace ScriptWords

set_option maxRecDepth 100000 in
set_option maxHeartbeats 4000000 in
theorem walk_out (s : ByteArray) (n : Int) (h : 100 < s.size ∨ n < -9007199254740992 ∨ 9007199254740992 < n) : Pure Try.prog 4 #[.string s, .int .i64 n] (.bool true) := by
  intro w
  have c : (decide (100 < (s.size : Int)) || decide (n < -9007199254740992) || decide (9007199254740992 < n)) = true := by
    rcases h with h | h | h
    · have : (100 : Int) < s.size := by omega
      simp [this]
    · simp [h]
    · simp [h]
  by_cases h1 : 100 < (s.size : Int)
  · clear c h
    go_enter Try.func4, Try.ntmps4
    go_wp2_with (go_at_call 8; with_reducible refine (awake_any.at _).mono ?_; rintro e w' ⟨rfl, g, rfl⟩)
    all_goals (try (exfalso; omega))
    all_goals go_ret
    all_goals exact Ret.mk rfl (by (repeat' (first | (with_reducible exact Below.refl _ _) | (with_reducible refine belowGrU ?_ _) | (with_reducible refine belowAlloc ?_ _) | (with_reducible refine Below.setCell ?_ ?_ _) | (with_reducible refine Below.drew ?_) | (simp [go_sem]; done) | (simp [go_sem]; omega))))
  · by_cases h2 : n < -9007199254740992
    · clear c h
      go_enter Try.func4, Try.ntmps4
      go_wp2_with (go_at_call 8; with_reducible refine (awake_any.at _).mono ?_; rintro e w' ⟨rfl, g, rfl⟩)
      all_goals (try (exfalso; omega))
      all_goals go_ret
      all_goals exact Ret.mk rfl (by (repeat' (first | (with_reducible exact Below.refl _ _) | (with_reducible refine belowGrU ?_ _) | (with_reducible refine belowAlloc ?_ _) | (with_reducible refine Below.setCell ?_ ?_ _) | (with_reducible refine Below.drew ?_) | (simp [go_sem]; done) | (simp [go_sem]; omega))))
    · have h3 : 9007199254740992 < n := by omega
      clear c h
      go_enter Try.func4, Try.ntmps4
      go_wp2_with (go_at_call 8; with_reducible refine (awake_any.at _).mono ?_; rintro e w' ⟨rfl, g, rfl⟩)
      all_goals (try (exfalso; omega))
      all_goals go_ret
      all_goals exact Ret.mk rfl (by (repeat' (first | (with_reducible exact Below.refl _ _) | (with_reducible refine belowGrU ?_ _) | (with_reducible refine belowAlloc ?_ _) | (with_reducible refine Below.setCell ?_ ?_ _) | (with_reducible refine Below.drew ?_) | (simp [go_sem]; done) | (simp [go_sem]; omega))))

set_option maxRecDepth 100000 in
set_option maxHeartbeats 4000000 in
theorem walk (s : ByteArray) (n : Int) (h1 : s.size ≤ 100) (h2 : -9007199254740992 ≤ n) (h3 : n ≤ 9007199254740992) : Pure Try.prog 4 #[.string s, .int .i64 n] (.bool true) := by
  intro w
  have cW := Words_any s
  rw [wordsV] at cW
  have cD := Dec_any n h2 h3
  obtain ⟨K, hK⟩ : ∃ K, (wordsS s).getD 0 = K := ⟨_, rfl⟩
  obtain ⟨ok, hok⟩ : ∃ ok, (wordsS s).isSome = ok := ⟨_, rfl⟩
  rw [hK, hok] at cW
  go_enter Try.func4, Try.ntmps4
  go_wp2_with (first
    | (go_at_call 8; with_reducible refine (awake_any.at _).mono ?_; rintro e w' ⟨rfl, g, rfl⟩)
    | (go_at_call 11; with_reducible refine (cW.at _).mono ?_; rintro e w' ⟨rfl, g2, rfl⟩))
  all_goals (try (exfalso; omega))
  have hdl : (decI n).length ≤ 19 := by
    have hl : (decN n.natAbs).length ≤ 18 := decN_len20 17 n.natAbs (by have : (10 : Nat) ^ 18 = 1000000000000000000 := rfl; omega)
    unfold decI
    split
    · rw [List.length_cons]; omega
    · omega
  have hsz : ∀ q : Nat, q ≤ 6 → (ofL (wline s.data.toList (decI n) q)).size ≤ 220 := fun q hq => by
    rw [ofL_size, wline_len, size_list]
    have : q * ((decI n).length + 1) ≤ 6 * 20 := Nat.mul_le_mul hq (by omega)
    omega
  go_loopw [8] (fun v wr => ∃ m : Nat, m ≤ 6 ∧ v = .int .i64 (m : Int) ∧ ∃ g' : Gr, wr = gr w g') (fun v _ => 6 - (intOf v).toNat)
  case atStart => exact ⟨0, by omega, rfl, _, rfl⟩
  case round =>
    obtain ⟨m, hm, rfl, g', rfl⟩ := hrel
    by_cases hlt : m < 6
    · cases ok with
      | false =>
        have hP : True := trivial
        go_wp2_with fail
        all_goals (try (exfalso; omega))
        rw [show decide ((m : Int) < 6) = true from decide_eq_true (by omega)]
        go_loopw [9, 10] (fun l j wr => ∃ q : Nat, q ≤ m ∧ j = .int .i64 (q : Int) ∧ l = .string (ofL (wline s.data.toList (decI n) q)) ∧ ∃ g3 : Gr, wr = gr w g3) (fun _ j _ => m - (intOf j).toNat)
        case atStart => exact ⟨0, by omega, rfl, by rw [wline, ofL_self], _, rfl⟩
        case round =>
          obtain ⟨q, hq, rfl, rfl, g3, rfl⟩ := hrel
          by_cases hql : q < m
          · have hcat : ofL (wline s.data.toList (decI n) q) ++ ⟨#[32]⟩ ++ ofL (decI n) = ofL (wline s.data.toList (decI n) (q + 1)) := by
              refine ba_ext ?_
              rw [cat_list, cat_list, ofL_list, ofL_list, ofL_list, wline, List.append_assoc]
              rfl
            have hz := hsz q (by omega)
            have hdz : (ofL (decI n)).size ≤ 19 := by rw [ofL_size]; exact hdl
            clear hP
            generalize ofL (wline s.data.toList (decI n) q) = X at *
            obtain ⟨X2, hX2⟩ : ∃ X2, ofL (wline s.data.toList (decI n) (q + 1)) = X2 := ⟨_, rfl⟩
            rw [hX2] at hcat
            generalize ofL (decI n) = D at *
            go_wp2_with (go_at_call 12; with_reducible refine (cD.at _).mono ?_; rintro e w' ⟨rfl, g4, rfl⟩)
            all_goals (try (exfalso; omega))
            go_roundw
            case rel => exact ⟨q + 1, by omega, by go_num, by rw [hX2], _, rfl⟩
            case measure => simp [intOf]; omega
          · obtain rfl : q = m := by omega
            have hz := hsz q (by omega)
            have hT : textW s n q = ⟨#[112, 111, 111, 108, 32, 52, 48, 32, 109, 50, 10]⟩ ++ ofL (wline s.data.toList (decI n) q) ++ ⟨#[10]⟩ := by
              unfold textW
              refine ba_ext ?_
              rw [cat_list, cat_list, ofL_list, ofL_list, List.append_assoc]
              rfl
            have cP := fun W : World => Parse_at (textW s n q) (by rw [hT, cat_size, cat_size]; have : (⟨#[112, 111, 111, 108, 32, 52, 48, 32, 109, 50, 10]⟩ : ByteArray).size = 11 := rfl; have : (⟨#[10]⟩ : ByteArray).size = 1 := rfl; omega) W
            obtain ⟨T, hPT⟩ : ∃ T, parseS (textW s n q) = T := ⟨_, rfl⟩
            rw [hPT] at cP
            try rw [hPT] at hP
            rw [hT] at cP
            clear hPT hT
            generalize ofL (wline s.data.toList (decI n) q) = X at *
            obtain ⟨sc, ln, cl, er⟩ := T
            simp only at cP
            obtain ⟨β, hβ⟩ : ∃ β, (er == 0) = β := ⟨_, rfl⟩
            go_wp2_with (go_at_call 9; refine (cP _).mono ?_; rintro e W' ⟨vG, vL, rfl, hG, hL, hbel⟩; obtain ⟨adG, capG, rfl⟩ := ownsRow_len hG; obtain ⟨adL, capL, rfl⟩ := ownsRow_len hL; obtain ⟨g5, rfl⟩ := gr_of_below hbel)
            all_goals (try (exfalso; omega))
            go_roundw
            case rel => exact ⟨q + 1, by omega, by go_num, by first | exact ex_gr_alloc' _ _ _ | exact ⟨_, rfl⟩⟩
            case measure => simp [intOf]; omega
      | true =>
        have hk : wordsS s = some K := by
          obtain ⟨z, hz⟩ := Option.isSome_iff_exists.1 hok
          rw [hz] at hK ⊢
          rw [← hK]
          rfl
        have hpl := parse_line hk h2 h3 m (by omega)
        clear hk
        by_cases hmk : m = K
        · have hP := hpl.1 hmk
          clear hpl
          subst hmk
          go_wp2_with fail
          all_goals (try (exfalso; omega))
          rw [show decide ((m : Int) < 6) = true from decide_eq_true (by omega)]
          go_loopw [9, 10] (fun l j wr => ∃ q : Nat, q ≤ m ∧ j = .int .i64 (q : Int) ∧ l = .string (ofL (wline s.data.toList (decI n) q)) ∧ ∃ g3 : Gr, wr = gr w g3) (fun _ j _ => m - (intOf j).toNat)
          case atStart => exact ⟨0, by omega, rfl, by rw [wline, ofL_self], _, rfl⟩
          case round =>
            obtain ⟨q, hq, rfl, rfl, g3, rfl⟩ := hrel
            by_cases hql : q < m
            · have hcat : ofL (wline s.data.toList (decI n) q) ++ ⟨#[32]⟩ ++ ofL (decI n) = ofL (wline s.data.toList (decI n) (q + 1)) := by
                refine ba_ext ?_
                rw [cat_list, cat_list, ofL_list, ofL_list, ofL_list, wline, List.append_assoc]
                rfl
              have hz := hsz q (by omega)
              have hdz : (ofL (decI n)).size ≤ 19 := by rw [ofL_size]; exact hdl
              clear hP
              generalize ofL (wline s.data.toList (decI n) q) = X at *
              obtain ⟨X2, hX2⟩ : ∃ X2, ofL (wline s.data.toList (decI n) (q + 1)) = X2 := ⟨_, rfl⟩
              rw [hX2] at hcat
              generalize ofL (decI n) = D at *
              go_wp2_with (go_at_call 12; with_reducible refine (cD.at _).mono ?_; rintro e w' ⟨rfl, g4, rfl⟩)
              all_goals (try (exfalso; omega))
              go_roundw
              case rel => exact ⟨q + 1, by omega, by go_num, by rw [hX2], _, rfl⟩
              case measure => simp [intOf]; omega
            · obtain rfl : q = m := by omega
              have hz := hsz q (by omega)
              have hT : textW s n q = ⟨#[112, 111, 111, 108, 32, 52, 48, 32, 109, 50, 10]⟩ ++ ofL (wline s.data.toList (decI n) q) ++ ⟨#[10]⟩ := by
                unfold textW
                refine ba_ext ?_
                rw [cat_list, cat_list, ofL_list, ofL_list, List.append_assoc]
                rfl
              have cP := fun W : World => Parse_at (textW s n q) (by rw [hT, cat_size, cat_size]; have : (⟨#[112, 111, 111, 108, 32, 52, 48, 32, 109, 50, 10]⟩ : ByteArray).size = 11 := rfl; have : (⟨#[10]⟩ : ByteArray).size = 1 := rfl; omega) W
              obtain ⟨T, hPT⟩ : ∃ T, parseS (textW s n q) = T := ⟨_, rfl⟩
              rw [hPT] at cP
              try rw [hPT] at hP
              rw [hT] at cP
              clear hPT hT
              generalize ofL (wline s.data.toList (decI n) q) = X at *
              obtain ⟨x, rfl, hx⟩ := hP
              obtain ⟨x0, x1, x2, x3, x4⟩ := x
              simp only at hx
              subst hx
              simp only [List.length_cons, List.length_nil, Nat.zero_add] at cP
              go_wp2_with (go_at_call 9; refine (cP _).mono ?_; rintro e W' ⟨vG, vL, rfl, hG, hL, hbel⟩; obtain ⟨adG, capG, rfl⟩ := ownsRow_len hG; obtain ⟨gL, capL, rfl, oL, cL⟩ := own_some hL; obtain ⟨g5, rfl⟩ := gr_of_below hbel; rw [gr_gr] at oL; haveI : Old gL (gr w (g3.seq g5)) := ⟨oL⟩; have cL0 := cL 0 _ rfl; rw [gr_gr] at cL0; have ixL := index_step0 gL capL; clear hG hL cL)
              all_goals (try (exfalso; omega))
              go_roundw
              case rel => exact ⟨q + 1, by omega, by go_num, by first | exact ex_gr_alloc' _ _ _ | exact ⟨_, rfl⟩⟩
              case measure => simp [intOf]; omega
        · have hP := hpl.2 hmk
          clear hpl
          go_wp2_with fail
          all_goals (try (exfalso; omega))
          rw [show decide ((m : Int) < 6) = true from decide_eq_true (by omega)]
          go_loopw [9, 10] (fun l j wr => ∃ q : Nat, q ≤ m ∧ j = .int .i64 (q : Int) ∧ l = .string (ofL (wline s.data.toList (decI n) q)) ∧ ∃ g3 : Gr, wr = gr w g3) (fun _ j _ => m - (intOf j).toNat)
          case atStart => exact ⟨0, by omega, rfl, by rw [wline, ofL_self], _, rfl⟩
          case round =>
            obtain ⟨q, hq, rfl, rfl, g3, rfl⟩ := hrel
            by_cases hql : q < m
            · have hcat : ofL (wline s.data.toList (decI n) q) ++ ⟨#[32]⟩ ++ ofL (decI n) = ofL (wline s.data.toList (decI n) (q + 1)) := by
                refine ba_ext ?_
                rw [cat_list, cat_list, ofL_list, ofL_list, ofL_list, wline, List.append_assoc]
                rfl
              have hz := hsz q (by omega)
              have hdz : (ofL (decI n)).size ≤ 19 := by rw [ofL_size]; exact hdl
              clear hP
              generalize ofL (wline s.data.toList (decI n) q) = X at *
              obtain ⟨X2, hX2⟩ : ∃ X2, ofL (wline s.data.toList (decI n) (q + 1)) = X2 := ⟨_, rfl⟩
              rw [hX2] at hcat
              generalize ofL (decI n) = D at *
              go_wp2_with (go_at_call 12; with_reducible refine (cD.at _).mono ?_; rintro e w' ⟨rfl, g4, rfl⟩)
              all_goals (try (exfalso; omega))
              go_roundw
              case rel => exact ⟨q + 1, by omega, by go_num, by rw [hX2], _, rfl⟩
              case measure => simp [intOf]; omega
            · obtain rfl : q = m := by omega
              have hz := hsz q (by omega)
              have hT : textW s n q = ⟨#[112, 111, 111, 108, 32, 52, 48, 32, 109, 50, 10]⟩ ++ ofL (wline s.data.toList (decI n) q) ++ ⟨#[10]⟩ := by
                unfold textW
                refine ba_ext ?_
                rw [cat_list, cat_list, ofL_list, ofL_list, List.append_assoc]
                rfl
              have cP := fun W : World => Parse_at (textW s n q) (by rw [hT, cat_size, cat_size]; have : (⟨#[112, 111, 111, 108, 32, 52, 48, 32, 109, 50, 10]⟩ : ByteArray).size = 11 := rfl; have : (⟨#[10]⟩ : ByteArray).size = 1 := rfl; omega) W
              obtain ⟨T, hPT⟩ : ∃ T, parseS (textW s n q) = T := ⟨_, rfl⟩
              rw [hPT] at cP
              try rw [hPT] at hP
              rw [hT] at cP
              clear hPT hT
              generalize ofL (wline s.data.toList (decI n) q) = X at *
              obtain ⟨sc, ln, cl, er⟩ := T
              simp only at cP hP
              have her : (er == 0) = false := by simpa using hP
              have hmk : ((q : Int) == (K : Int)) = false := by rw [beq_eq_false_iff_ne]; omega
              go_wp2_with (go_at_call 9; refine (cP _).mono ?_; rintro e W' ⟨vG, vL, rfl, hG, hL, hbel⟩; obtain ⟨adG, capG, rfl⟩ := ownsRow_len hG; obtain ⟨adL, capL, rfl⟩ := ownsRow_len hL; obtain ⟨g5, rfl⟩ := gr_of_below hbel)
              all_goals (try (exfalso; omega))
              go_roundw
              case rel => exact ⟨q + 1, by omega, by go_num, by first | exact ex_gr_alloc' _ _ _ | exact ⟨_, rfl⟩⟩
              case measure => simp [intOf]; omega
    · obtain rfl : m = 6 := by omega
      cases ok with
      | true =>
        clear cW
        go_wp2_with fail
        all_goals (try (exfalso; omega))
        all_goals go_ret
        all_goals exact Ret.mk rfl (by (repeat' (first | (with_reducible exact Below.refl _ _) | (with_reducible refine belowGrU ?_ _) | (with_reducible refine belowAlloc ?_ _) | (with_reducible refine Below.setCell ?_ ?_ _) | (with_reducible refine Below.drew ?_) | (simp [go_sem]; done) | (simp [go_sem]; omega))))
      | false =>
        have h0 : K = 0 := by
          rw [← hK]
          cases hw : wordsS s with
          | none => rfl
          | some z => rw [hw] at hok; cases hok
        subst h0
        clear cW
        go_wp2_with fail
        all_goals (try (exfalso; omega))
        all_goals go_ret
        all_goals exact Ret.mk rfl (by (repeat' (first | (with_reducible exact Below.refl _ _) | (with_reducible refine belowGrU ?_ _) | (with_reducible refine belowAlloc ?_ _) | (with_reducible refine Below.setCell ?_ ?_ _) | (with_reducible refine Below.drew ?_) | (simp [go_sem]; done) | (simp [go_sem]; omega))))

theorem Words_pure (s : ByteArray) (n : Int) : Pure Try.prog 4 #[.string s, .int .i64 n] (.bool true) := by
  by_cases h : 100 < s.size ∨ n < -9007199254740992 ∨ 9007199254740992 < n
  · exact walk_out s n h
  · exact walk s n (by omega) (by omega) (by omega)

set_option maxRecDepth 100000 in
theorem lawWalk : LawWalk 4 Try.f4.params := by
  intro H enc W base args ds p hval hA _ _
  rw [Try.params4] at hA hval
  obtain ⟨v0, v1, d0, d1, p0, p1, rfl, rfl, rfl, h0, h1⟩ := trodAll_two hA
  obtain ⟨s, rfl, rfl, rfl, hs⟩ := open_string Try.underlying9 (hval 0 9 v0 rfl rfl) h0
  obtain ⟨n, rfl, rfl, rfl, wn⟩ := open_int Try.underlying3 (hval 1 3 v1 rfl rfl) h1
  exact Words_pure s n W

set_option maxRecDepth 100000 in
theorem holds : Rows.ScriptWordsSaid :=
  OpenClaim.holds_of_wide 4 Try.f4 rfl rfl rfl rfl rfl rfl rfl ⟨rfl, rfl, rfl, rfl, rfl⟩ rfl rfl rfl rfl rfl (by kernel_rfl) Try.func4 (by kernel_rfl)
    (of_decide_eq_true (by kernel_rfl)) (by unfold Func.isWrapper; first | (rw [if_pos (by decide +kernel)]; kernel_rfl) | (rw [if_neg (by decide +kernel)]; exact ⟨rfl, rfl⟩))
    (fun os started H enc _ => law_lifted (s := Rows.scriptWordsSpec) started (by kernel_rfl) Try.func4 rfl rfl Try.underlying4 (by kernel_rfl)
      (fun ds h => by
        rw [Try.params4] at h
        match ds, h with
        | [d1, d2], _ => rfl)
      (ChangeSpec.witness6 (enc := enc) (C := Try.checked) false ⟨#[], #[.string ⟨#[]⟩, .int .i64 0], []⟩ 8 (by kernel_rfl) (by kernel_rfl) (by kernel_rfl) (by kernel_rfl))
      lawWalk)
#print axioms holds

end ScriptWords
end Go.Proofs.Ytajionjffijffaa

/-
  Plain laws: what is read is, without notes, what is written of it.
-/
import Derived.Laws.RangeAny
import Derived.Test.YtajionjffijffaaNotesP
import Derived.Test.YtajionjffijffaaLineP
import Derived.Test.YtajionjffijffaaWrite
namespace Go.Proofs.Ytajionjffijffaa
open Go.RowKit Go.Sort

/-! ### what a right script is -/
theorem stepS_ok {x : Act5} (h : stepS x = 0) : ∃ k, wordsS x.word = some k ∧ ∀ i, i < 4 → -9007199254740992 ≤ x.nth i ∧ x.nth i ≤ 9007199254740992 ∧ (i < k ∨ x.nth i = 0) := by
  unfold stepS at h
  cases hk : wordsS x.word with
  | none => rw [hk] at h; cases h
  | some k =>
    rw [hk] at h
    simp only at h
    split at h
    · rename_i ho
      simp only [Bool.and_eq_true] at ho
      obtain ⟨⟨⟨h0, h1⟩, h2⟩, h3⟩ := ho
      have each : ∀ i, okN x k i = true → -9007199254740992 ≤ x.nth i ∧ x.nth i ≤ 9007199254740992 ∧ (i < k ∨ x.nth i = 0) := fun i hi => by
        unfold okN at hi
        simp only [Bool.and_eq_true, decide_eq_true_eq, Bool.or_eq_true, beq_iff_eq] at hi
        exact ⟨hi.1.1, hi.1.2, hi.2⟩
      refine ⟨k, rfl, fun i hi => ?_⟩
      rcases (show i = 0 ∨ i = 1 ∨ i = 2 ∨ i = 3 by omega) with rfl | rfl | rfl | rfl
      · exact each 0 h0
      · exact each 1 h1
      · exact each 2 h2
      · exact each 3 h3
    · cases h
theorem stepsS_all : ∀ (xs : List Act5) (n : Nat), stepsS n xs = 0 → n ≤ 1000 ∧ ∀ x ∈ xs, stepS x = 0
  | [], n, h => by
    unfold stepsS at h
    split at h
    · cases h
    · exact ⟨by omega, fun x hx => by cases hx⟩
  | x :: xs, n, h => by
    unfold stepsS at h
    split at h
    · rename_i h0
      obtain ⟨h1, h2⟩ := stepsS_all xs n h
      exact ⟨h1, fun y hy => by rcases List.mem_cons.1 hy with rfl | hy; exact h0; exact h2 y hy⟩
    · contradiction
theorem okW_of {x : Act5} (h : stepS x = 0) : okW x := by
  obtain ⟨k, hk, hn⟩ := stepS_ok h
  obtain ⟨_, _, hl, hk4⟩ := word_props hk
  refine ⟨by rw [size_list] at hl; exact hl, by rw [hk]; simp; omega, fun i hi => ⟨(hn i hi).1, (hn i hi).2.1⟩⟩
structure RightP (gs : List (Int × Int)) (secs : Int) (xs : List Act5) : Prop where
  g1 : 1 ≤ gs.length
  g4 : gs.length ≤ 4
  s1 : 24 ≤ secs
  s2 : secs ≤ 4096
  one : ∀ g ∈ gs, (g.1 = 0 ∨ g.1 = 1) ∧ 0 ≤ g.2 ∧ g.2 ≤ 8
  few : xs.length ≤ 1000
  acts : ∀ x ∈ xs, stepS x = 0
theorem rightP_of {gs : List (Int × Int)} {secs : Int} {xs : List Act5} (h : rightS gs secs xs = 0) : RightP gs secs xs := by
  unfold rightS at h
  split at h
  · rename_i hg
    unfold goodL at hg
    simp only [Bool.and_eq_true, decide_eq_true_eq, List.all_eq_true] at hg
    obtain ⟨⟨⟨⟨h1, h2⟩, h3⟩, h4⟩, h5⟩ := hg
    obtain ⟨h6, h7⟩ := stepsS_all _ _ h
    refine ⟨h1, h2, h3, h4, fun g hgm => ?_, h6, h7⟩
    have := h5 g hgm
    unfold oneG at this
    simp only [decide_eq_true_eq] at this
    omega
  · cases h
theorem Write_at (w : World) (vG vL : Value) (secs : Int) (gs : List (Int × Int)) (xs : List Act5) (m n : Nat) (hG : Rd w 2 m vG (flatG gs)) (hL : Rd w 5 n vL (flatA xs)) (hr : rightS gs secs xs = 0) :
    Calls Try.prog 17 #[.agg #[vG, .int .i64 secs, vL]] w (Ret (.tuple #[.string (ofL (writeB gs secs xs)), .int .i64 0]) w) := by
  have h := rightP_of hr
  have hm : m = gs.length := by obtain ⟨_, _, _, _, _, h⟩ := hG; exact flatG_n h.len
  have hn : n = xs.length := by obtain ⟨_, _, _, _, _, h⟩ := hL; exact flatA_n h.len
  exact Write_yes w vG vL secs gs xs m n hG hL hr (by rw [hm]; exact h.g4) (by rw [hn]; exact h.few) (by have := h.s1; omega) h.s2 h.one (fun x hx => okW_of (h.acts x hx))

/-! ### a line's parts, joined -/
def joinP (ps : List (ByteArray × Int)) : List UInt8 := match ps with
  | [] => []
  | p :: ps => p.1.data.toList ++ (ps.map fun q => 32 :: q.1.data.toList).flatten
theorem joinP_snoc (ps : List (ByteArray × Int)) (h : ps ≠ []) (q : ByteArray × Int) : joinP (ps ++ [q]) = joinP ps ++ 32 :: q.1.data.toList := by
  cases ps with
  | nil => exact absurd rfl h
  | cons p ps => simp [joinP]
theorem joinP_last (ps : List (ByteArray × Int)) (p : ByteArray × Int) (e : ByteArray) (a : Int) : joinP (ps ++ [(p.1 ++ e, a)]) = joinP (ps ++ [p]) ++ e.data.toList := by
  cases ps with
  | nil => simp [joinP]
  | cons q ps => simp [joinP]
theorem encode_blank : (Utf8.encode (32 : Int)).data.toList = [32] := by decide
theorem joinP_fold : ∀ (rs : List Nat) (st : PState), st.1 ≠ [] → joinP (pfold st rs).1 = joinP st.1 ++ (rs.map fun r : Nat => (Utf8.encode (r : Int)).data.toList).flatten
  | [], st, _ => by simp [pfold]
  | r :: rs, st, h => by
    have e : pfold st (r :: rs) = pfold (pstep st r) rs := rfl
    have hn : (pstep st r).1 ≠ [] := by unfold pstep; split <;> simp
    rw [e, joinP_fold rs _ hn, List.map_cons, List.flatten_cons, ← List.append_assoc]
    congr 1
    unfold pstep
    split
    · rename_i h32
      subst h32
      simp only
      rw [joinP_snoc _ h]
      show _ ++ 32 :: [] = _ ++ (Utf8.encode (32 : Int)).data.toList
      rw [encode_blank]
    · simp only
      rw [joinP_last]
      congr 2
      have : (st.1.getLastD (⟨#[]⟩, 0)) = st.1.getLast h := by
        rw [List.getLastD_eq_getLast?, List.getLast?_eq_some_getLast h]
        rfl
      rw [this, List.dropLast_concat_getLast]
def encN (c : Nat) : ByteArray := if c < 0x80 then ⟨#[UInt8.ofNat c]⟩
  else if c < 0x800 then ⟨#[UInt8.ofNat (0xC0 + c / 64), UInt8.ofNat (0x80 + c % 64)]⟩
  else if c < 0x10000 then ⟨#[UInt8.ofNat (0xE0 + c / 4096), UInt8.ofNat (0x80 + c / 64 % 64), UInt8.ofNat (0x80 + c % 64)]⟩
  else ⟨#[UInt8.ofNat (0xF0 + c / 262144), UInt8.ofNat (0x80 + c / 4096 % 64), UInt8.ofNat (0x80 + c / 64 % 64), UInt8.ofNat (0x80 + c % 64)]⟩
theorem encode_N (r : Int) : Utf8.encode r = encN (if Utf8.valid r = true then r.toNat else Utf8.runeError) := rfl
theorem encN_high (c : Nat) (h1 : 128 ≤ c) (h2 : c ≤ 1114111) : ∃ b ∈ (encN c).data.toList, 128 ≤ b.toNat := by
  have big : ∀ c : Nat, 192 ≤ c → c < 256 → 128 ≤ (UInt8.ofNat c).toNat := fun c h1 h2 => by
    rw [UInt8.toNat_ofNat', Nat.mod_eq_of_lt h2]
    omega
  unfold encN
  rw [if_neg (by omega)]
  split
  · exact ⟨_, List.mem_cons_self, big _ (by omega) (by omega)⟩
  · split
    · exact ⟨_, List.mem_cons_self, big _ (by omega) (by omega)⟩
    · exact ⟨_, List.mem_cons_self, big _ (by omega) (by omega)⟩
theorem encode_high (r : Nat) (h : 128 ≤ r) : ∃ b ∈ (Utf8.encode (r : Int)).data.toList, 128 ≤ b.toNat := by
  rw [encode_N]
  refine encN_high _ ?_ ?_
  · split
    · omega
    · unfold Utf8.runeError; omega
  · split
    · rename_i hv
      unfold Utf8.valid at hv
      simp at hv
      omega
    · unfold Utf8.runeError; omega
theorem small_runes {rs : List Nat} (h : Ascii ((rs.map fun r : Nat => (Utf8.encode (r : Int)).data.toList).flatten)) : ∀ r ∈ rs, r < 128 := by
  intro r hr
  rcases Nat.lt_or_ge r 128 with h1 | h1
  · exact h1
  · obtain ⟨b, hb, hb2⟩ := encode_high r h1
    have := h b (List.mem_flatten.2 ⟨_, List.mem_map.2 ⟨r, hr, rfl⟩, hb⟩)
    omega
theorem runesF_small (s : ByteArray) : ∀ f i, s.size ≤ f + i → i ≤ s.size → (∀ r ∈ runesF s f i, r < 128) → runesF s f i = (s.data.toList.drop i).map (·.toNat)
  | 0, i, hf, hi, _ => by
    rw [runesF, List.drop_of_length_le (by rw [size_list]; omega)]
    rfl
  | f + 1, i, hf, hi, hr => by
    rw [runesF] at hr ⊢
    by_cases hlt : i < s.size
    · rw [if_pos hlt] at hr ⊢
      have hl : i < s.data.toList.length := by rw [size_list]; exact hlt
      have h0 : (Utf8.decode s i).1 < 128 := hr _ List.mem_cons_self
      have hb : (s[i]'hlt).toNat < 128 := by
        rcases Nat.lt_or_ge (s[i]'hlt).toNat 128 with h1 | h1
        · exact h1
        · have := (decode_high s i hlt h1).1
          omega
      have he : (s[i]'hlt) = s.data.toList[i] := by simp; rfl
      rw [decode_ascii s i hlt hb] at hr ⊢
      simp only at hr ⊢
      rw [List.drop_eq_getElem_cons hl, List.map_cons, ← he, runesF_small s f (i + 1) (by omega) (by omega) (fun r h => hr r (List.mem_cons_of_mem _ h))]
    · rw [if_neg hlt, List.drop_of_length_le (by rw [size_list]; omega)]
      rfl
theorem enc_ascii_all (l : List UInt8) (h : Ascii l) : ((l.map (·.toNat)).map fun r : Nat => (Utf8.encode (r : Int)).data.toList).flatten = l := by
  induction l with
  | nil => rfl
  | cons b l ih =>
    rw [List.map_cons, List.map_cons, List.flatten_cons, ih (fun x hx => h x (List.mem_cons_of_mem _ hx)), encode_ascii b (h b List.mem_cons_self), ofL_list]
    rfl
/-- a text whose parts are ASCII is its parts joined -/
theorem parts_join (s : ByteArray) (h : Ascii (joinP (pfold pstart (runes s)).1)) : s.data.toList = joinP (pfold pstart (runes s)).1 := by
  have h0 := joinP_fold (runes s) pstart (by simp [pstart])
  have hp : joinP pstart.1 = [] := by simp [joinP, pstart]
  rw [hp, List.nil_append] at h0
  rw [h0] at h ⊢
  have h1 := small_runes h
  have h2 : runes s = s.data.toList.map (·.toNat) := by
    have := runesF_small s s.size 0 (by omega) (by omega) h1
    rw [List.drop_zero] at this
    exact this
  rw [h2]
  refine (enc_ascii_all _ fun b hb => ?_).symm
  have := h1 b.toNat (by rw [h2]; exact List.mem_map.2 ⟨b, hb, rfl⟩)
  exact this
theorem join_form (s : ByteArray) : joinP (pfold pstart (runes s)).1 = (firstP s).data.toList ++ ((midP s).map fun q => 32 :: q.1.data.toList).flatten := by
  obtain ⟨p0, pe, hps, hp0, _⟩ := parts_form s
  have : (pfold pstart (runes s)).1 = p0 :: midP s := by
    unfold partsS at hps
    have h2 : (pfold pstart (runes s)).1 ++ [(⟨#[]⟩, (pfold pstart (runes s)).2 + 1)] = (p0 :: midP s) ++ [pe] := hps
    exact (List.append_inj' h2 rfl).1
  rw [this, ← hp0]
  rfl

/-! ### numbers, groups -/
theorem num_inv {s : ByteArray} (h : (numS s).2 = true) : s.data.toList = decI (numS s).1 := by
  unfold numS at h ⊢
  simp only at h ⊢
  split at h
  · cases h
  · rename_i hc
    rw [if_neg hc]
    cases hd : digitsS (runes (ofL (Lib.trimPrefix s.data.toList [45]))) 0 with
    | none => rw [hd] at h; cases h
    | some n =>
      rw [hd] at h
      unfold numTail at h ⊢
      simp only at h ⊢
      have h2 := congrArg (fun l : List UInt8 => l) (beq_iff_eq.1 h)
      have h3 : ∀ a b : ByteArray, a.toList = b.toList → a.data.toList = b.data.toList := fun a b hab => by rw [← ByteArray.toList_eq, ← ByteArray.toList_eq]; exact hab
      have h4 := h3 _ _ h2
      rw [ofL_list] at h4
      exact h4.symm
theorem prefix_one {l : List UInt8} {c : UInt8} (h : Lib.hasPrefix l [c] = true) : l = c :: Lib.trimPrefix l [c] := by
  unfold Lib.trimPrefix
  rw [if_pos h]
  unfold Lib.hasPrefix at h
  cases l with
  | nil => cases h
  | cons b l =>
    have : c = b := by simpa [List.isPrefixOf] using h
    subst this
    rfl
theorem group_inv {s : ByteArray} (h : (groupS s).2 = true) : s.data.toList = (if (groupS s).1.1 = 0 then 109 else 112) :: decI (groupS s).1.2 := by
  unfold groupS at h ⊢
  split at h
  · rename_i hp
    rw [if_pos hp]
    have h1 := num_inv h
    unfold restS at h1
    rw [ofL_list] at h1
    rw [prefix_one hp, h1]
    rfl
  · rename_i hp
    split at h
    · rename_i hp2
      rw [if_neg hp, if_pos hp2]
      have h1 := num_inv h
      unfold restS at h1
      rw [ofL_list] at h1
      rw [prefix_one hp2, h1]
      rfl
    · cases h
theorem decI_ascii (n : Int) : Ascii (decI n) := fun b hb => by have := decI_bytes n b hb; omega
theorem measLoop_inv : ∀ (ys : List (ByteArray × Int)) (gs gs' : List (Int × Int)), measLoop gs ys = .inr gs' → ∃ hs, gs' = gs ++ hs ∧ (ys.map fun q => 32 :: q.1.data.toList) = hs.map grpB
  | [], gs, gs', h => by
    rw [measLoop] at h
    cases h
    exact ⟨[], by simp, rfl⟩
  | y :: ys, gs, gs', h => by
    rw [measLoop] at h
    split at h
    · rename_i hy
      obtain ⟨hs, h1, h2⟩ := measLoop_inv ys _ _ h
      refine ⟨(groupS y.1).1 :: hs, by rw [h1]; simp, ?_⟩
      rw [List.map_cons, List.map_cons, h2, group_inv hy]
      rfl
    · cases h
theorem grpB_ascii (g : Int × Int) : Ascii (grpB g) := by
  intro b hb
  unfold grpB at hb
  rcases List.mem_cons.1 hb with rfl | hb
  · decide
  · rcases List.mem_cons.1 hb with rfl | hb
    · split <;> decide
    · exact decI_ascii _ b hb
theorem ascii_flatten {ls : List (List UInt8)} (h : ∀ l ∈ ls, Ascii l) : Ascii ls.flatten := fun b hb => by
  obtain ⟨l, hl, hb⟩ := List.mem_flatten.1 hb
  exact h l hl b hb
theorem ascii_append {a b : List UInt8} (ha : Ascii a) (hb : Ascii b) : Ascii (a ++ b) := fun x hx => by
  rcases List.mem_append.1 hx with h | h
  · exact ha x h
  · exact hb x h
/-- a pool line that is read -/
theorem meas_inv (s : ByteArray) (G : GeoS) (c e : Int) (h : measS (firstP s) (midP s) (endP s) = (G, c, e)) (he : e = 0) : s.data.toList ++ [10] = headB G.secs G.gs ∧ G.gs ≠ [] := by
  subst he
  unfold measS at h
  split at h
  · cases h
  · rename_i hw
    have hw := Decidable.of_not_not hw
    cases hm : midP s with
    | nil => rw [hm] at h; cases h
    | cons y ys =>
      rw [hm] at h
      simp only at h
      split at h
      · rename_i hy
        cases hl : measLoop [] ys with
        | inl a => rw [hl] at h; cases h
        | inr gs' =>
          rw [hl] at h
          obtain ⟨hs, h1, h2⟩ := measLoop_inv ys _ _ hl
          rw [List.nil_append] at h1
          subst h1
          cases gs' with
          | nil => cases h
          | cons g gs' =>
            unfold measTail at h
            simp only at h
            cases h
            have hj : joinP (pfold pstart (runes s)).1 = poolL ++ (32 :: decI (numS y.1).1) ++ (((g :: gs').map grpB).flatten) := by
              rw [join_form, hm, hw, List.map_cons, List.flatten_cons, h2, num_inv hy, List.append_assoc]
            have ha : Ascii (joinP (pfold pstart (runes s)).1) := by
              rw [hj]
              refine ascii_append (ascii_append (by unfold Ascii; decide) ?_) (ascii_flatten fun l hl => ?_)
              · intro b hb
                rcases List.mem_cons.1 hb with rfl | hb
                · decide
                · exact decI_ascii _ b hb
              · obtain ⟨g, _, rfl⟩ := List.mem_map.1 hl
                exact grpB_ascii g
            refine ⟨?_, by simp⟩
            rw [parts_join s ha, hj]
            simp [headB, poolL]
      · cases h

/-! ### acts -/
theorem nth_setN (x : Act5) (i j : Nat) (n : Int) (hi : i < 4) (hj : j < 4) : (x.setN i n).nth j = if j = i then n else x.nth j := by
  rcases (show i = 0 ∨ i = 1 ∨ i = 2 ∨ i = 3 by omega) with rfl | rfl | rfl | rfl <;>
  rcases (show j = 0 ∨ j = 1 ∨ j = 2 ∨ j = 3 by omega) with rfl | rfl | rfl | rfl <;> rfl
theorem word_setN (x : Act5) (i : Nat) (n : Int) : (x.setN i n).word = x.word := by
  unfold Act5.setN
  split <;> rfl
theorem actLoop_inv (k : Nat) (hk : k ≤ 4) : ∀ (ys : List (ByteArray × Int)) (i : Nat) (x x' : Act5), actLoop k i x ys = .inr x' → i ≤ k →
    x'.word = x.word ∧ i + ys.length ≤ k ∧ (∀ j, j < i → x'.nth j = x.nth j) ∧ (ys.map fun q => 32 :: q.1.data.toList) = (List.range ys.length).map (fun p => numB (x'.nth (i + p)))
  | [], i, x, x', h, hi => by
    rw [actLoop] at h
    cases h
    exact ⟨rfl, by simpa using hi, fun _ _ => rfl, rfl⟩
  | y :: ys, i, x, x', h, hi => by
    rw [actLoop] at h
    split at h
    · rename_i hy
      obtain ⟨h1, h2, h3, h4⟩ := actLoop_inv k hk ys (i + 1) _ x' h hy.2
      refine ⟨by rw [h1, word_setN], by rw [List.length_cons]; omega, fun j hj => ?_, ?_⟩
      · rw [h3 j (by omega), nth_setN _ _ _ _ (by omega) (by omega), if_neg (by omega)]
      · rw [List.map_cons, List.length_cons, List.range_succ_eq_map, List.map_cons, List.map_map, h4]
        congr 1
        · rw [Nat.add_zero, h3 i (by omega), nth_setN _ _ _ _ (by omega) (by omega), if_pos rfl, num_inv hy.1]
          rfl
        · refine List.map_congr_left fun p _ => ?_
          show numB _ = numB _
          congr 2
          omega
    · cases h
/-- an act's line that is read -/
theorem act_inv (s : ByteArray) (x : Act5) (c e : Int) (h : actS (firstP s) (midP s) (endP s) = (x, c, e)) (he : e = 0) : s.data.toList ++ [10] = lineB x := by
  subst he
  unfold actS at h
  cases hk : wordsS (firstP s) with
  | none => rw [hk] at h; cases h
  | some k =>
    rw [hk] at h
    simp only at h
    cases hl : actLoop k 0 ⟨firstP s, 0, 0, 0, 0⟩ (midP s) with
    | inl a => rw [hl] at h; cases h
    | inr x' =>
      rw [hl] at h
      unfold actTail at h
      simp only at h
      split at h
      · cases h
      · rename_i hnk
        cases h
        obtain ⟨hb, _, _, hk4⟩ := word_props hk
        obtain ⟨h1, h2, _, h4⟩ := actLoop_inv k (by omega) (midP s) 0 _ x hl (by omega)
        simp only at h1
        have hlen : (midP s).length = k := by omega
        have hj : joinP (pfold pstart (runes s)).1 = (firstP s).data.toList ++ ((List.range k).map fun p => numB (x.nth p)).flatten := by
          rw [join_form, h4, hlen]
          simp
        have ha : Ascii (joinP (pfold pstart (runes s)).1) := by
          rw [hj]
          refine ascii_append (fun b h => by have := hb b h; omega) (ascii_flatten fun l hl => ?_)
          obtain ⟨p, _, rfl⟩ := List.mem_map.1 hl
          intro b hb
          rcases List.mem_cons.1 hb with rfl | hb
          · decide
          · exact decI_ascii _ b hb
        rw [parts_join s ha, hj]
        unfold lineB
        rw [h1, hk]
        rfl

/-! ### a script that is read -/
theorem ended_inv {x : List UInt8} (h : endedOf x = true) : x = (textOf x).data.toList ++ [10] := by
  unfold endedOf Lib.hasSuffix at h
  rw [List.isSuffixOf_iff_suffix] at h
  obtain ⟨l, rfl⟩ := h
  rw [(text_hit l).1, ofL_list]
theorem endS_ok {s : ScS} {n : Int} {S : ScS} {a b e : Int} (h : endS s n = (S, a, b, e)) (he : e = 0) : S = s ∧ a = 0 ∧ b = 0 ∧ s.gs ≠ [] ∧ rightS s.gs s.secs s.xs = 0 := by
  subst he
  unfold endS at h
  split at h
  · cases h
  · rename_i hg
    split at h
    · rename_i hr
      injection h with h1 h2
      injection h2 with h3 h4
      injection h4 with h5 h6
      exact absurd h6 hr
    · rename_i hr
      cases h
      exact ⟨rfl, rfl, rfl, hg, Decidable.of_not_not hr⟩
theorem read_acts : ∀ (ls : List (List UInt8)) (s : ScS) (n : Int) (S : ScS) (a b e : Int), s.gs ≠ [] → parseL s n ls = (S, a, b, e) → e = 0 →
    S.gs = s.gs ∧ S.secs = s.secs ∧ a = 0 ∧ b = 0 ∧ rightS S.gs S.secs S.xs = 0 ∧ ∃ ys, S.xs = s.xs ++ ys ∧ (keepL ls).flatten = (ys.map lineB).flatten
  | [], s, n, S, a, b, e, hs, h, he => by
    obtain ⟨rfl, h1, h2, _, h3⟩ := endS_ok h he
    exact ⟨rfl, rfl, h1, h2, h3, [], by simp, rfl⟩
  | x :: ls, s, n, S, a, b, e, hs, h, he => by
    rw [parseL] at h
    split at h
    · rename_i hn
      have hk : keepL (x :: ls) = keepL ls := by
        unfold keepL
        rw [List.filter_cons, if_neg (by unfold isN; rw [hn]; simp)]
      rw [hk]
      exact read_acts ls s _ S a b e hs h he
    · rename_i hn
      have hk : keepL (x :: ls) = x :: keepL ls := by
        unfold keepL
        rw [List.filter_cons, if_pos (by unfold isN; simpa using hn)]
      simp only at h
      have hl : lineS s (firstP (textOf x)) (midP (textOf x)) (endP (textOf x)) = (⟨s.gs, s.secs, s.xs ++ [(actS (firstP (textOf x)) (midP (textOf x)) (endP (textOf x))).1]⟩, (actS (firstP (textOf x)) (midP (textOf x)) (endP (textOf x))).2.1, (actS (firstP (textOf x)) (midP (textOf x)) (endP (textOf x))).2.2) := by
        unfold lineS
        rw [if_neg hs]
      obtain ⟨⟨x5, c5, e5⟩, hr⟩ : ∃ r, actS (firstP (textOf x)) (midP (textOf x)) (endP (textOf x)) = r := ⟨_, rfl⟩
      rw [hr] at hl
      rw [hl] at h
      clear hl
      simp only at h
      by_cases he2 : e5 = 0
      · rw [if_neg (by simpa using he2)] at h
        cases hend : endedOf x with
        | true =>
          rw [if_pos hend] at h
          obtain ⟨h1, h2, h3, h4, h5, ys, h6, h7⟩ := read_acts ls ⟨s.gs, s.secs, s.xs ++ [x5]⟩ _ S a b e hs h he
          simp only at h1 h2 h6
          refine ⟨h1, h2, h3, h4, h5, x5 :: ys, by rw [h6]; simp, ?_⟩
          rw [hk, List.flatten_cons, h7, List.map_cons, List.flatten_cons]
          congr 1
          rw [ended_inv hend]
          exact act_inv _ _ _ _ hr he2
        | false =>
          rw [if_neg (by rw [hend]; simp)] at h
          injection h with _ h2
          injection h2 with _ h3
          injection h3 with _ h4
          omega
      · rw [if_pos (by simpa using he2)] at h
        injection h with _ h2
        injection h2 with _ h3
        injection h3 with _ h4
        omega
theorem read_all : ∀ (ls : List (List UInt8)) (n : Int) (S : ScS) (a b e : Int), parseL noSc n ls = (S, a, b, e) → e = 0 →
    a = 0 ∧ b = 0 ∧ rightS S.gs S.secs S.xs = 0 ∧ (keepL ls).flatten = writeB S.gs S.secs S.xs
  | [], n, S, a, b, e, h, he => by
    obtain ⟨_, _, _, h3, _⟩ := endS_ok h he
    exact absurd rfl h3
  | x :: ls, n, S, a, b, e, h, he => by
    rw [parseL] at h
    split at h
    · rename_i hn
      have hk : keepL (x :: ls) = keepL ls := by
        unfold keepL
        rw [List.filter_cons, if_neg (by unfold isN; rw [hn]; simp)]
      rw [hk]
      exact read_all ls _ S a b e h he
    · rename_i hn
      have hk : keepL (x :: ls) = x :: keepL ls := by
        unfold keepL
        rw [List.filter_cons, if_pos (by unfold isN; simpa using hn)]
      simp only at h
      have hl : lineS noSc (firstP (textOf x)) (midP (textOf x)) (endP (textOf x)) = (⟨(measS (firstP (textOf x)) (midP (textOf x)) (endP (textOf x))).1.gs, (measS (firstP (textOf x)) (midP (textOf x)) (endP (textOf x))).1.secs, []⟩, (measS (firstP (textOf x)) (midP (textOf x)) (endP (textOf x))).2.1, (measS (firstP (textOf x)) (midP (textOf x)) (endP (textOf x))).2.2) := rfl
      obtain ⟨⟨G5, c5, e5⟩, hr⟩ : ∃ r, measS (firstP (textOf x)) (midP (textOf x)) (endP (textOf x)) = r := ⟨_, rfl⟩
      rw [hr] at hl
      rw [hl] at h
      clear hl
      simp only at h
      by_cases he2 : e5 = 0
      · rw [if_neg (by simpa using he2)] at h
        obtain ⟨hi1, hi2⟩ := meas_inv (textOf x) G5 c5 e5 hr he2
        cases hend : endedOf x with
        | true =>
          rw [if_pos hend] at h
          obtain ⟨h1, h2, h3, h4, h5, ys, h6, h7⟩ := read_acts ls ⟨G5.gs, G5.secs, []⟩ _ S a b e hi2 h he
          simp only [List.nil_append] at h1 h2 h6
          refine ⟨h3, h4, h5, ?_⟩
          rw [hk, List.flatten_cons, h7, ended_inv hend, hi1]
          unfold writeB
          rw [h1, h2, h6]
        | false =>
          rw [if_neg (by rw [hend]; simp)] at h
          injection h with _ h2
          injection h2 with _ h3
          injection h3 with _ h4
          omega
      · rw [if_pos (by simpa using he2)] at h
        injection h with _ h2
        injection h2 with _ h3
        injection h3 with _ h4
        omega
/-- what is read is, without notes, what is written of it -/
theorem only_plain (t : ByteArray) (S : ScS) (a b e : Int) (h : parseS t = (S, a, b, e)) (he : e = 0) : a = 0 ∧ b = 0 ∧ rightS S.gs S.secs S.xs = 0 ∧ notesB (linesS t.data.toList) = writeB S.gs S.secs S.xs := by
  unfold parseS at h
  split at h
  · cases h
    cases he
  · exact read_all _ _ S a b e h he

end Go.Proofs.Ytajionjffijffaa

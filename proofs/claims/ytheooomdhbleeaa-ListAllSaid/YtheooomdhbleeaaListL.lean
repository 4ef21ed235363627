/-
  What the printed functions of rows of texts answer, from some number of rounds on: letters, the parts of a row, places, setting, pushing, comparing. Plain lists. Conditions: none.
-/
import Derived.Test.YtheooomdhbleeaaLYx2
import Derived.Test.YtheooomdhbleeaaLYx3
namespace Go.Proofs.Ytheooomdhbleeaa.Pure
open Go.RowKit Go.Proofs.Ytheooomdhbleeaa.LY Go.Proofs.YtheooomdhbleeaaW.PrintWords Go.Proofs.YtheooomdhbleeaaW.PrintLast Go.Proofs.YtheooomdhbleeaaW.PrintMore
theorem awake_ev : Ev (fun k => caravanlaw8_awake.f k) true := Ev.of caravanlaw8_awake.mono (k := 10) (by decide +kernel)
theorem wn {i : Int} (h0 : -9223372036854775808 ≤ i) (h1 : i < 9223372036854775808) : wrap64 i = i := by unfold wrap64; omega
theorem w1 {i : Nat} (h : i < 1000000000) : wrap64 ((i : Int) + 1) = ((i + 1 : Nat) : Int) := by unfold wrap64; omega
theorem rdOf_nat (l : List ByteArray) (i : Nat) : rdOf ByteArray.empty l (i : Int) = l[i]?.getD ByteArray.empty := by
  unfold rdOf
  rw [Int.toNat_natCast, List.getD_eq_getElem?_getD]
theorem getD_get {l : List ByteArray} {i : Nat} {x : ByteArray} (h : l[i]? = some x) : l[i]?.getD ByteArray.empty = x := by rw [h]; rfl
/-- letters makes as many texts as there are numbers. -/
theorem letters_said (ns : List Int) (hn : ns.length < 1000000) : ∀ (m i : Nat) (x : List ByteArray), i + m = ns.length → x.length = i → ∃ r, caravanlaw8_letters.l0 (m + 1) ns x (i : Int) = some r ∧ r.length = ns.length
  | 0, i, x, h, hx => by
    refine ⟨x, ?_, by omega⟩
    rw [caravanlaw8_letters.l0, if_neg (by omega)]
  | m + 1, i, x, h, hx => by
    obtain ⟨r, ih, hr⟩ := letters_said ns hn m (i + 1) (x ++ [strOfNums (([(97 + (Int.tmod (rd ns i) 4)) % 256] : List Int))]) (by omega) (by rw [List.length_append, hx]; rfl)
    generalize m + 1 = q at ih ⊢
    rw [caravanlaw8_letters.l0, if_pos (by omega), if_pos (by omega), if_pos (by omega), w1 (by omega)]
    exact ⟨r, ih, hr⟩
theorem letters_ev (ns : List Int) (hn : ns.length < 1000000) : ∃ r, Ev (fun k => caravanlaw8_letters.f k ns) r ∧ r.length = ns.length := by
  obtain ⟨r, h, hr⟩ := letters_said ns hn ns.length 0 [] (by omega) rfl
  exact ⟨r, Ev.of (caravanlaw8_letters.mono ns) (k := ns.length + 1) (by unfold caravanlaw8_letters.f; exact h), hr⟩
/-! ### Places -/
/-- A place, told from the front. -/
abbrev pl (n : Nat) (a : Int) : Int := if a < 0 then a + n else a
theorem place_said (l : List ByteArray) (a : Int) (h0 : -9223372036854775808 ≤ a) (hl : l.length < 1000000000) : list_place.f l a = some (pl l.length a, decide (0 ≤ pl l.length a ∧ pl l.length a < (l.length : Int))) := by
  unfold list_place.f pl
  by_cases h : a < 0
  · rw [if_pos h, if_pos h, wn (by omega) (by omega)]
    by_cases h2 : a + (l.length : Int) ≥ 0
    · rw [if_pos h2]
      by_cases h3 : a + (l.length : Int) < (l.length : Int)
      · rw [decide_eq_true h3, decide_eq_true ⟨h2, h3⟩]
      · rw [decide_eq_false h3, decide_eq_false (fun x => h3 x.2)]
    · rw [if_neg h2, decide_eq_false (fun x => h2 x.1)]
  · rw [if_neg h, if_neg h, if_pos (by omega)]
    have h2 : 0 ≤ a := by omega
    by_cases h3 : a < (l.length : Int)
    · rw [decide_eq_true h3, decide_eq_true ⟨h2, h3⟩]
    · rw [decide_eq_false h3, decide_eq_false (fun x => h3 x.2)]
theorem at_in {l : List ByteArray} {a : Int} {i : Nat} (h0 : -9223372036854775808 ≤ a) (hl : l.length < 1000000000) (hi : i < l.length) (ha : pl l.length a = (i : Int)) : list_At.f l a = some (l[i]?.getD ByteArray.empty, true) := by
  have d1 : (0 : Int) ≤ (i : Int) := by omega
  have d2 : (i : Int) < (l.length : Int) := by omega
  unfold list_At.f
  rw [place_said l a h0 hl, ha, Option.bind_some, decide_eq_true ⟨d1, d2⟩, if_pos rfl, if_pos d1, if_pos d2, rdOf_nat]
theorem at_out {l : List ByteArray} {a : Int} (h0 : -9223372036854775808 ≤ a) (hl : l.length < 1000000000) (ha : ¬ (0 ≤ pl l.length a ∧ pl l.length a < (l.length : Int))) : list_At.f l a = some (⟨#[]⟩, false) := by
  unfold list_At.f
  rw [place_said l a h0 hl, Option.bind_some, decide_eq_false ha, if_neg Bool.false_ne_true]
theorem clone_said {l : List ByteArray} (hl : l.length < 1000000000) : slices_Clone_string_string.f l = some l := by
  unfold slices_Clone_string_string.f
  rw [if_pos (by omega)]
theorem set_in {l : List ByteArray} {a : Int} {i : Nat} {v : ByteArray} (h0 : -9223372036854775808 ≤ a) (hl : l.length < 1000000000) (hi : i < l.length) (ha : pl l.length a = (i : Int)) : list_Set.f l a v = some (l.set i v, true) := by
  have d1 : (0 : Int) ≤ (i : Int) := by omega
  have d2 : (i : Int) < (l.length : Int) := by omega
  unfold list_Set.f
  rw [place_said l a h0 hl, ha, Option.bind_some, decide_eq_true ⟨d1, d2⟩, if_pos rfl, clone_said hl, Option.bind_some, if_pos d1, if_pos d2, Int.toNat_natCast]
theorem set_out {l : List ByteArray} {a : Int} {v : ByteArray} (h0 : -9223372036854775808 ≤ a) (hl : l.length < 1000000000) (ha : ¬ (0 ≤ pl l.length a ∧ pl l.length a < (l.length : Int))) : list_Set.f l a v = some ([], false) := by
  unfold list_Set.f
  rw [place_said l a h0 hl, Option.bind_some, decide_eq_false ha, if_neg Bool.false_ne_true]
/-! ### Parts -/
theorem mx_eq (a b : Int) : mx a b = max a b := by unfold mx; split <;> omega
theorem mn_eq (a b : Int) : mn a b = min a b := by unfold mn; split <;> omega
/-- A part that begins at lo and ends before hi. -/
theorem sub_ev {l : List ByteArray} {a b : Int} {lo hi : Nat} (hl : l.length < 1000000000) (ha : -9223372036854775808 ≤ a) (hb : -9223372036854775808 ≤ b)
    (hlo : (lo : Int) = max (pl l.length a) 0) (hhi : (hi : Int) = max 0 (min (pl l.length b) ((l.length : Int) - 1) + 1)) : Ev (fun k => list_Sub.f k l a b) ((l.take hi).drop lo) := by
  have key : ∀ k, text_Range.f (k + 1) (l.length : Int) a b = some (if lo ≥ hi then (0, 0) else ((lo : Int), (hi : Int))) := by
    intro k
    have hp : ∀ x : Int, -9223372036854775808 ≤ x → x < 0 → wrap64 (x + (l.length : Int)) = x + (l.length : Int) := fun x h0 h1 => wn (by omega) (by omega)
    have hj : ∀ x : Int, x = pl l.length a → text_Range.j0 (k + 1) (l.length : Int) x b = some (if lo ≥ hi then (0, 0) else ((lo : Int), (hi : Int))) := by
      intro x hx
      have hm : mx x 0 = (lo : Int) := by rw [mx_eq, hx, hlo]
      have hw : wrap64 ((l.length : Int) - 1) = (l.length : Int) - 1 := wn (by omega) (by omega)
      have hq : ∀ y : Int, y = pl l.length b → (if mx x 0 ≥ wrap64 (mn y ((l.length : Int) - 1) + 1) then some ((0 : Int), (0 : Int)) else some (mx x 0, wrap64 (mn y ((l.length : Int) - 1) + 1))) = some (if lo ≥ hi then (0, 0) else ((lo : Int), (hi : Int))) := by
        intro y hy
        have hy0 : -9223372036854775808 ≤ y := by rw [hy]; unfold pl; split <;> omega
        have hy1 : mn y ((l.length : Int) - 1) ≤ (l.length : Int) - 1 := by rw [mn_eq]; omega
        have hy2 : -9223372036854775808 ≤ mn y ((l.length : Int) - 1) := by rw [mn_eq]; omega
        rw [wn (i := mn y ((l.length : Int) - 1) + 1) (by omega) (by omega), hm]
        rw [← hy, ← mn_eq] at hhi
        by_cases hc : lo ≥ hi
        · rw [if_pos hc, if_pos (by omega)]
        · have he : mn y ((l.length : Int) - 1) + 1 = (hi : Int) := by omega
          rw [if_neg hc, if_neg (by omega), he]
      rw [text_Range.j0, hw]
      by_cases hbn : b < 0
      · rw [if_pos hbn, hp b hb hbn]
        exact hq _ (by unfold pl; rw [if_pos hbn])
      · rw [if_neg hbn]
        exact hq _ (by unfold pl; rw [if_neg hbn])
    unfold text_Range.f
    by_cases han : a < 0
    · rw [if_pos han, hp a ha han]
      exact hj _ (by unfold pl; rw [if_pos han])
    · rw [if_neg han]
      exact hj _ (by unfold pl; rw [if_neg han])
  refine ⟨1, fun n hn => ?_⟩
  obtain ⟨k, rfl⟩ : ∃ m, n = m + 1 := ⟨n - 1, by omega⟩
  show list_Sub.f (k + 1) l a b = _
  unfold list_Sub.f
  rw [key k, Option.bind_some]
  have hle : hi ≤ l.length := by omega
  by_cases hc : lo ≥ hi
  · rw [if_pos hc]
    have he : (l.take hi).drop lo = [] := by
      rw [List.drop_eq_nil_iff, List.length_take]
      omega
    rw [he]
    show (if (0 : Int) ≤ 0 then _ else none) = _
    rw [if_pos (by omega), if_pos (Int.le_refl 0), if_pos (by omega)]
    show (slices_Clone_string_string.f ((l.take 0).drop 0)).bind _ = _
    rw [List.take_zero, List.drop_nil, clone_said (by decide)]
    rfl
  · rw [if_neg hc]
    show (if (0 : Int) ≤ (lo : Int) then _ else none) = _
    have d1 : (0 : Int) ≤ (lo : Int) := by omega
    have d2 : (lo : Int) ≤ (hi : Int) := by omega
    have d3 : (hi : Int) ≤ (l.length : Int) := by omega
    rw [if_pos d1]
    show (if (lo : Int) ≤ (hi : Int) then _ else none) = _
    rw [if_pos d2]
    show (if (hi : Int) ≤ (l.length : Int) then _ else none) = _
    rw [if_pos d3]
    show (slices_Clone_string_string.f ((l.take (hi : Int).toNat).drop (lo : Int).toNat)).bind _ = _
    rw [Int.toNat_natCast, Int.toNat_natCast, clone_said (by rw [List.length_drop, List.length_take]; omega)]
    rfl
/-! ### Comparing -/
theorem texts_l0 (a : List ByteArray) (ha : a.length < 1000000000) : ∀ (m i : Nat), i + m = a.length → caravanref1_Texts.l0 (m + 1) a a (i : Int) = some true
  | 0, i, h => by
    rw [caravanref1_Texts.l0, if_neg (by omega)]
  | m + 1, i, h => by
    have ih := texts_l0 a ha m (i + 1) (by omega)
    generalize m + 1 = q at ih ⊢
    rw [caravanref1_Texts.l0, if_pos (by omega), if_pos (by omega), if_pos (by omega), if_pos rfl, w1 (by omega)]
    exact ih
theorem texts_refl (a : List ByteArray) (ha : a.length < 1000000000) : Ev (fun k => caravanref1_Texts.f k a a) true :=
  Ev.of (caravanref1_Texts.mono a a) (k := a.length + 1) (by unfold caravanref1_Texts.f; rw [if_pos rfl]; exact texts_l0 a ha a.length 0 (by omega))
theorem texts_same {a b : List ByteArray} (ha : a.length < 1000000000) (h : a = b) : Ev (fun k => caravanref1_Texts.f k a b) true := h ▸ texts_refl a ha
theorem texts_ne {a b : List ByteArray} (h : a.length ≠ b.length) : Ev (fun k => caravanref1_Texts.f k a b) false :=
  ⟨0, fun k _ => by show caravanref1_Texts.f k a b = _; unfold caravanref1_Texts.f; rw [if_neg (by omega)]⟩
/-! ### Pushing -/
/-- What stands at p behind turning round the places from i to i + j. -/
theorem rev_said (n : Nat) (hn : n < 1000000000) : ∀ (d i : Nat) (x : List ByteArray), x.length = n → i + d = n → 2 * i ≤ n →
    ∃ r, slices_Reverse_string_string.l0 (d + 1) x (i : Int) ((n : Int) - 1 - (i : Int)) = some r ∧ r.length = n ∧ ∀ p, p < n → r[p]? = if i ≤ p ∧ p + i < n then x[n - 1 - p]? else x[p]?
  | 0, i, x, hx, h, h2 => by
    refine ⟨x, ?_, hx, fun p hp => ?_⟩
    · rw [slices_Reverse_string_string.l0, if_neg (by omega)]
    · rw [if_neg (by omega)]
  | d + 1, i, x, hx, h, h2 => by
    by_cases hlt : 2 * i + 1 < n
    · have hj : ((n : Int) - 1 - (i : Int)) = ((n - 1 - i : Nat) : Int) := by omega
      obtain ⟨r, ih, hl, hr⟩ := rev_said n hn d (i + 1) ((x.set i (x[n - 1 - i]?.getD ByteArray.empty)).set (n - 1 - i) (x[i]?.getD ByteArray.empty)) (by rw [List.length_set, List.length_set, hx]) (by omega) (by omega)
      have e1 : (n : Int) - 1 - ((i + 1 : Nat) : Int) = ((n - 1 - i : Nat) : Int) - 1 := by omega
      rw [e1] at ih
      have d1 : (i : Int) < ((n - 1 - i : Nat) : Int) := by omega
      have d2 : (0 : Int) ≤ ((n - 1 - i : Nat) : Int) := by omega
      have d3 : ((n - 1 - i : Nat) : Int) < (x.length : Int) := by omega
      have d4 : (0 : Int) ≤ (i : Int) := by omega
      have d5 : (i : Int) < (x.length : Int) := by omega
      have w2 : wrap64 (((n - 1 - i : Nat) : Int) - 1) = ((n - 1 - i : Nat) : Int) - 1 := wn (by omega) (by omega)
      refine ⟨r, ?_, hl, fun p hp => ?_⟩
      · generalize d + 1 = q at ih ⊢
        rw [hj, slices_Reverse_string_string.l0, if_pos d1, if_pos d2, if_pos d3, if_pos d4, if_pos d5, rdOf_nat, rdOf_nat, Int.toNat_natCast, Int.toNat_natCast, w2, w1 (by clear w2; omega)]
        exact ih
      · clear w2
        rw [hr p hp]
        have g : ∀ q, q < n → x[q]? = some (x[q]?.getD ByteArray.empty) := fun q hq => by rw [List.getElem?_eq_getElem (by omega)]; rfl
        by_cases c1 : p = i
        · subst c1
          rw [if_neg (by omega), if_pos (by omega), List.getElem?_set_ne (by omega), List.getElem?_set_self (by omega)]
          exact (g _ (by omega)).symm
        · by_cases c2 : p = n - 1 - i
          · subst c2
            rw [if_neg (by omega), if_pos (by omega), List.getElem?_set_self (by rw [List.length_set]; omega), show n - 1 - (n - 1 - i) = i by omega]
            exact (g _ (by omega)).symm
          · by_cases c3 : i ≤ p ∧ p + i < n
            · rw [if_pos c3, if_pos (by omega), List.getElem?_set_ne (by omega), List.getElem?_set_ne (by omega)]
            · rw [if_neg c3, if_neg (by omega), List.getElem?_set_ne (by omega), List.getElem?_set_ne (by omega)]
    · refine ⟨x, ?_, hx, fun p hp => ?_⟩
      · rw [slices_Reverse_string_string.l0, if_neg (by omega)]
      · by_cases c : i ≤ p ∧ p + i < n
        · rw [if_pos c, show n - 1 - p = p by omega]
        · rw [if_neg c]
theorem rev_ev (x : List ByteArray) (hx : x.length < 1000000000) : Ev (fun k => slices_Reverse_string_string.f k x) x.reverse := by
  obtain ⟨r, h, hl, hr⟩ := rev_said x.length hx x.length 0 x rfl (by omega) (by omega)
  have he : r = x.reverse := by
    apply List.ext_getElem?
    intro p
    by_cases hp : p < x.length
    · rw [hr p hp, if_pos (by omega), List.getElem?_reverse hp]
    · rw [List.getElem?_eq_none (by omega), List.getElem?_eq_none (by rw [List.length_reverse]; omega)]
  refine Ev.of (slices_Reverse_string_string.mono x) (k := x.length + 1) ?_
  unfold slices_Reverse_string_string.f
  rw [wn (by omega) (by omega), ← he, ← h]
  simp
theorem push_ev (l v : List ByteArray) (b : Bool) (hl : l.length < 100000000) (hv : v.length < 100000000) : Ev (fun k => list_Push.f k l b v) (if b = true then v.reverse ++ l else l ++ v) := by
  by_cases hb : b = true
  · rw [if_pos hb]
    refine Ev.congr (f := fun k => (slices_Reverse_string_string.f k v).bind fun t => if t.length + l.length < 8796093022208 then some (t ++ l) else none) (fun k => ?_) (Ev.bind (rev_ev v (by omega)) ?_)
    · show list_Push.f k l b v = _
      unfold list_Push.f
      rw [if_pos hb, clone_said (by omega), Option.bind_some]
    · refine ⟨0, fun k _ => ?_⟩
      show (if v.reverse.length + l.length < 8796093022208 then some (v.reverse ++ l) else none) = _
      rw [if_pos (by rw [List.length_reverse]; omega)]
  · rw [if_neg hb]
    refine ⟨0, fun k _ => ?_⟩
    show list_Push.f k l b v = _
    unfold list_Push.f slices_Concat_string_string.f
    have hf : ([l, v] : List (List ByteArray)).flatten = l ++ v := by simp
    rw [if_neg hb, hf, if_pos (by show 2 < _; omega), if_pos (by rw [List.length_append]; omega), Option.bind_some]
end Go.Proofs.Ytheooomdhbleeaa.Pure

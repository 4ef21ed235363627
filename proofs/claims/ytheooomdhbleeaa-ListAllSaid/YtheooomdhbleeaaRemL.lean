/-
  What list.Rem's Lean function answers: how many places go, which ones, what stays. Plain lists. Conditions: none.
-/
import Derived.Test.YtheooomdhbleeaaRem
namespace Go.Proofs.Ytheooomdhbleeaa.Rem
open Go.RowKit Go.Proofs.YtheooomdhbleeaaW.PrintWords Go.Proofs.YtheooomdhbleeaaW.PrintLast
/-- The places at which v stands, in the order told. -/
def M (v : ByteArray) (xs : List (Nat × ByteArray)) : List Int := (xs.filter (fun x => decide (x.2.toList = v.toList))).map (fun x => (x.1 : Int))
theorem full_iff (n : Int) (g : List Int) : full n g = true ↔ n ≠ 0 ∧ g.length = n.natAbs := by
  unfold full
  simp only [Bool.or_eq_true, Bool.and_eq_true, decide_eq_true_eq]
  omega
theorem M_cons (v : ByteArray) (x : Nat × ByteArray) (xs : List (Nat × ByteArray)) : M v (x :: xs) = if x.2.toList = v.toList then (x.1 : Int) :: M v xs else M v xs := by
  unfold M
  by_cases h : x.2.toList = v.toList
  · rw [if_pos h, List.filter_cons_of_pos (by simpa using h), List.map_cons]
  · rw [if_neg h, List.filter_cons_of_neg (by simpa using h)]
theorem M_append (v : ByteArray) (xs ys : List (Nat × ByteArray)) : M v (xs ++ ys) = M v xs ++ M v ys := by
  unfold M
  rw [List.filter_append, List.map_append]
theorem foldl_eq (n : Int) (v : ByteArray) : ∀ (xs : List (Nat × ByteArray)) (g : List Int), (n = 0 ∨ g.length ≤ n.natAbs) →
    xs.foldl (step n v) g = if n = 0 then g ++ M v xs else (g ++ M v xs).take n.natAbs
  | [], g, h => by
    have hM : M v [] = [] := rfl
    rw [List.foldl_nil, hM, List.append_nil]
    by_cases h0 : n = 0
    · rw [if_pos h0]
    · rw [if_neg h0, List.take_of_length_le (by omega)]
  | x :: xs, g, h => by
    rw [List.foldl_cons, M_cons]
    by_cases hf : full n g = true
    · rw [step_full hf, foldl_full hf]
      obtain ⟨h0, hl⟩ := (full_iff n g).1 hf
      rw [if_neg h0, ← hl, List.take_left]
    · have hs : step n v g x = if x.2.toList = v.toList then g ++ [(x.1 : Int)] else g := if_neg hf
      rw [hs]
      have hlt : n = 0 ∨ g.length < n.natAbs := by
        by_cases h0 : n = 0
        · exact .inl h0
        · exact .inr (by have h9 : ¬ g.length = n.natAbs := fun e => hf ((full_iff n g).2 ⟨h0, e⟩); omega)
      by_cases hv : x.2.toList = v.toList
      · rw [if_pos hv, if_pos hv, foldl_eq n v xs (g ++ [(x.1 : Int)]) (by rw [List.length_append, List.length_singleton]; omega), List.append_assoc, List.singleton_append]
      · rw [if_neg hv, if_neg hv]
        exact foldl_eq n v xs g h
theorem goneOf_eq (n : Int) (v : ByteArray) (xs : List (Nat × ByteArray)) : goneOf n v xs = if n = 0 then M v xs else (M v xs).take n.natAbs := by
  unfold goneOf
  rw [foldl_eq n v xs [] (by simp), List.nil_append]
/-- Does v stand at place i? -/
abbrev hit (l : List ByteArray) (v : ByteArray) (i : Nat) : Prop := (l[i]?.getD ByteArray.empty).toList = v.toList
theorem Q_succ (l : List ByteArray) (v : ByteArray) (f : Nat → Nat) (k : Nat) : M v (upto l f (k + 1)) = M v (upto l f k) ++ (if hit l v (f k) then [(f k : Int)] else []) := by
  rw [upto_succ, M_append, M_cons]
  rfl
theorem mem_take (l : List ByteArray) (v : ByteArray) (f : Nat → Nat) (w : Nat) (x : Int) : ∀ k, x ∈ (M v (upto l f k)).take w ↔ ∃ j, j < k ∧ x = (f j : Int) ∧ hit l v (f j) ∧ (M v (upto l f j)).length < w
  | 0 => by
    have h : M v (upto l f 0) = [] := rfl
    rw [h]
    simp
  | k + 1 => by
    have ih := mem_take l v f w x k
    rw [Q_succ, List.take_append, List.mem_append, ih]
    constructor
    · rintro (⟨j, h1, h2⟩ | h)
      · exact ⟨j, by omega, h2⟩
      · by_cases hh : hit l v (f k)
        · rw [if_pos hh] at h
          by_cases hw : (M v (upto l f k)).length < w
          · obtain ⟨q, hq⟩ : ∃ q, w - (M v (upto l f k)).length = q + 1 := ⟨w - (M v (upto l f k)).length - 1, by omega⟩
            rw [hq] at h
            simp at h
            exact ⟨k, by omega, h, hh, hw⟩
          · rw [show w - (M v (upto l f k)).length = 0 by omega] at h
            simp at h
        · rw [if_neg hh] at h
          simp at h
    · rintro ⟨j, h1, h2, h3, h4⟩
      rcases Nat.lt_or_ge j k with hj | hj
      · exact .inl ⟨j, hj, h2, h3, h4⟩
      · obtain rfl : j = k := by omega
        refine .inr ?_
        rw [if_pos h3]
        obtain ⟨q, hq⟩ : ∃ q, w - (M v (upto l f j)).length = q + 1 := ⟨w - (M v (upto l f j)).length - 1, by omega⟩
        rw [hq, h2]
        simp
/-- How often v stands at the first k places. -/
def c (l : List ByteArray) (v : ByteArray) (k : Nat) : Nat := (M v (upto l (fun j => j) k)).length
theorem c_succ (l : List ByteArray) (v : ByteArray) (k : Nat) : c l v (k + 1) = c l v k + (if hit l v k then 1 else 0) := by
  unfold c
  rw [Q_succ, List.length_append]
  by_cases h : hit l v k
  · rw [if_pos h, if_pos h]; rfl
  · rw [if_neg h, if_neg h]; rfl
theorem c_zero (l : List ByteArray) (v : ByteArray) : c l v 0 = 0 := rfl
theorem c_mono (l : List ByteArray) (v : ByteArray) (k : Nat) : ∀ d, c l v k ≤ c l v (k + d)
  | 0 => Nat.le_refl _
  | d + 1 => by have := c_mono l v k d; have := c_succ l v (k + d); rw [show k + (d + 1) = k + d + 1 by omega]; omega
theorem c_le (l : List ByteArray) (v : ByteArray) : ∀ k, c l v k ≤ k
  | 0 => Nat.le_refl _
  | k + 1 => by have := c_le l v k; have := c_succ l v k; split at this <;> omega
theorem back_c (l : List ByteArray) (v : ByteArray) : ∀ j, j ≤ l.length → (M v (upto l (fun j => l.length - 1 - j) j)).length + c l v (l.length - j) = c l v l.length
  | 0, _ => by
    have h : M v (upto l (fun j => l.length - 1 - j) 0) = [] := rfl
    rw [h]; simp
  | j + 1, h => by
    have ih := back_c l v j (by omega)
    rw [Q_succ, List.length_append]
    obtain ⟨q, hq⟩ : ∃ q, l.length - 1 - j = q := ⟨_, rfl⟩
    have h1 : l.length - j = q + 1 := by omega
    have h2 : l.length - (j + 1) = q := by omega
    rw [h1, c_succ] at ih
    simp only [hq]
    rw [h2]
    by_cases hh : hit l v q
    · rw [if_pos hh] at ih ⊢
      simp only [List.length_singleton]
      omega
    · rw [if_neg hh] at ih ⊢
      simp only [List.length_nil]
      omega
def want (l : List ByteArray) (n : Int) (v : ByteArray) : Nat := if n = 0 then c l v l.length else min (c l v l.length) n.natAbs
def skip (l : List ByteArray) (n : Int) (v : ByteArray) : Nat := if n < 0 then c l v l.length - want l n v else 0
theorem gone_length (l : List ByteArray) (n : Int) (v : ByteArray) : (gone l n v).length = want l n v := by
  unfold gone seqOf want
  rw [goneOf_eq]
  have hb := back_c l v l.length (Nat.le_refl _)
  rw [Nat.sub_self, c_zero, Nat.add_zero] at hb
  by_cases h0 : n = 0
  · subst h0; rfl
  · rw [if_neg h0, if_neg h0, List.length_take]
    by_cases hn : n < 0
    · rw [if_pos hn, hb]; omega
    · rw [if_neg hn]
      show min _ (c l v l.length) = _
      omega
theorem gone_mem (l : List ByteArray) (n : Int) (v : ByteArray) (i : Nat) (hi : i < l.length) : (i : Int) ∈ gone l n v ↔ hit l v i ∧ skip l n v < c l v i + 1 ∧ c l v i + 1 ≤ skip l n v + want l n v := by
  have hc1 := c_succ l v i
  have hc2 := c_mono l v (i + 1) (l.length - (i + 1))
  rw [show i + 1 + (l.length - (i + 1)) = l.length by omega] at hc2
  unfold gone seqOf
  rw [goneOf_eq]
  by_cases h0 : n = 0
  · subst h0
    rw [if_pos rfl, if_neg (by omega)]
    have hm := mem_take l v (fun j => j) (l.length + 1) (i : Int) l.length
    rw [List.take_of_length_le (by have := c_le l v l.length; unfold c at this; omega)] at hm
    rw [hm]
    unfold skip want
    rw [if_neg (by omega), if_pos rfl]
    constructor
    · rintro ⟨j, h1, h2, h3, h4⟩
      obtain rfl : i = j := by omega
      rw [if_pos h3] at hc1
      exact ⟨h3, by omega, by omega⟩
    · rintro ⟨h1, h2, h3⟩
      exact ⟨i, hi, rfl, h1, by have := c_le l v i; unfold c at this; omega⟩
  · rw [if_neg h0]
    by_cases hn : n < 0
    · rw [if_pos hn, mem_take]
      unfold skip
      rw [if_pos hn]
      unfold want
      rw [if_neg h0]
      constructor
      · rintro ⟨j, h1, h2, h3, h4⟩
        have hj : l.length - 1 - j = i := by omega
        have hb := back_c l v j (by omega)
        rw [show l.length - j = i + 1 by omega] at hb
        simp only [hj] at h3
        rw [if_pos h3] at hc1
        exact ⟨h3, by omega, by omega⟩
      · rintro ⟨h1, h2, h3⟩
        have hb := back_c l v (l.length - 1 - i) (by omega)
        rw [show l.length - (l.length - 1 - i) = i + 1 by omega] at hb
        rw [if_pos h1] at hc1
        have hj : l.length - 1 - (l.length - 1 - i) = i := by omega
        exact ⟨l.length - 1 - i, by omega, by simp only [hj], by simp only [hj]; exact h1, by omega⟩
    · rw [if_neg hn, mem_take]
      unfold skip
      rw [if_neg hn]
      unfold want
      rw [if_neg h0]
      constructor
      · rintro ⟨j, h1, h2, h3, h4⟩
        obtain rfl : i = j := by omega
        rw [if_pos h3] at hc1
        have h5 : c l v i < n.natAbs := h4
        exact ⟨h3, by omega, by omega⟩
      · rintro ⟨h1, h2, h3⟩
        exact ⟨i, hi, rfl, h1, by show c l v i < _; omega⟩
/-- How many of the first i places stay. -/
def at_ (l : List ByteArray) (n : Int) (v : ByteArray) (i : Nat) : Nat := (outFrom (gone l n v) 0 (l.take i)).length
theorem at_eq (l : List ByteArray) (n : Int) (v : ByteArray) : ∀ i, i ≤ l.length → at_ l n v i + min (want l n v) (c l v i - skip l n v) = i
  | 0, _ => by
    have h : at_ l n v 0 = 0 := rfl
    rw [h, c_zero]; omega
  | i + 1, h => by
    have ih := at_eq l n v i (by omega)
    have hc := c_succ l v i
    have hm := gone_mem l n v i (by omega)
    have ht : l.take (i + 1) = l.take i ++ [l[i]?.getD ByteArray.empty] := take_at (by omega) rfl
    have ha : at_ l n v (i + 1) = at_ l n v i + (if (i : Int) ∈ gone l n v then 0 else 1) := by
      unfold at_
      rw [ht, outFrom_append, List.length_append, List.length_take, Nat.min_eq_left (by omega), Nat.zero_add]
      by_cases hg : (i : Int) ∈ gone l n v
      · rw [if_pos hg, if_pos hg]; rfl
      · rw [if_neg hg, if_neg hg]; rfl
    by_cases hg : (i : Int) ∈ gone l n v
    · obtain ⟨h1, h2, h3⟩ := hm.1 hg
      rw [if_pos hg] at ha
      rw [if_pos h1] at hc
      omega
    · rw [if_neg hg] at ha
      by_cases hh : hit l v i
      · rw [if_pos hh] at hc
        have : ¬ (skip l n v < c l v i + 1 ∧ c l v i + 1 ≤ skip l n v + want l n v) := fun hx => hg (hm.2 ⟨hh, hx⟩)
        omega
      · rw [if_neg hh] at hc
        omega
theorem want_le (l : List ByteArray) (n : Int) (v : ByteArray) : want l n v ≤ c l v l.length := by
  unfold want
  split <;> omega
theorem out_length (l : List ByteArray) (n : Int) (v : ByteArray) : (out l n v).length + want l n v = l.length := by
  have h := at_eq l n v l.length (Nat.le_refl _)
  have hw := want_le l n v
  have ho : at_ l n v l.length = (out l n v).length := by unfold at_ out; rw [List.take_length]
  rw [ho] at h
  have hs : min (want l n v) (c l v l.length - skip l n v) = want l n v := by
    unfold skip
    split <;> omega
  omega
theorem outFrom_two (g : List Int) : ∀ (xs ys : List ByteArray) (i : Nat), outFrom g i (xs ++ ys) = outFrom g i xs ++ outFrom g (i + xs.length) ys
  | [], ys, i => rfl
  | x :: xs, ys, i => by
    have ih := outFrom_two g xs ys (i + 1)
    have e : i + 1 + xs.length = i + (x :: xs).length := by simp only [List.length_cons]; omega
    rw [e] at ih
    show (if (i : Int) ∈ g then outFrom g (i + 1) (xs ++ ys) else x :: outFrom g (i + 1) (xs ++ ys)) = (if (i : Int) ∈ g then outFrom g (i + 1) xs else x :: outFrom g (i + 1) xs) ++ _
    rw [ih]
    by_cases h : (i : Int) ∈ g
    · rw [if_pos h, if_pos h]
    · rw [if_neg h, if_neg h, List.cons_append]
theorem out_at (l : List ByteArray) (n : Int) (v : ByteArray) (i : Nat) (hi : i < l.length) (hg : ¬ (i : Int) ∈ gone l n v) : (out l n v)[at_ l n v i]? = some (l[i]?.getD ByteArray.empty) := by
  have hs : l = l.take (i + 1) ++ l.drop (i + 1) := (List.take_append_drop _ _).symm
  have ho : out l n v = outFrom (gone l n v) 0 (l.take (i + 1)) ++ outFrom (gone l n v) (0 + (l.take (i + 1)).length) (l.drop (i + 1)) := by
    rw [← outFrom_two, List.take_append_drop]
    rfl
  rw [take_at hi rfl, outFrom_append, List.length_take, Nat.min_eq_left (by omega), Nat.zero_add, if_neg hg] at ho
  rw [ho, List.append_assoc]
  unfold at_
  rw [List.getElem?_append_right (Nat.le_refl _), Nat.sub_self]
  rfl
theorem at_succ (l : List ByteArray) (n : Int) (v : ByteArray) (i : Nat) (hi : i < l.length) : at_ l n v (i + 1) = at_ l n v i + (if (i : Int) ∈ gone l n v then 0 else 1) := by
  unfold at_
  rw [take_at hi rfl, outFrom_append, List.length_append, List.length_take, Nat.min_eq_left (by omega), Nat.zero_add]
  by_cases hg : (i : Int) ∈ gone l n v
  · rw [if_pos hg, if_pos hg]; rfl
  · rw [if_neg hg, if_neg hg]; rfl
theorem at_le (l : List ByteArray) (n : Int) (v : ByteArray) : at_ l n v l.length = (out l n v).length := by unfold at_ out; rw [List.take_length]
end Go.Proofs.Ytheooomdhbleeaa.Rem

/-
  The plain law behind the law ListRems: what its Lean function computes is true. Conditions: none of its own.
-/
import Derived.Test.YtheooomdhbleeaaLXx2
import Derived.Test.YtheooomdhbleeaaRemL
namespace Go.Proofs.Ytheooomdhbleeaa.Pure
open Go.RowKit Go.Proofs.Ytheooomdhbleeaa.LX Go.Proofs.YtheooomdhbleeaaW.PrintWords Go.Proofs.YtheooomdhbleeaaW.PrintLast Go.Proofs.YtheooomdhbleeaaW.PrintMore
theorem awake10 : caravanlaw8_awake.f 10 = some true := by decide +kernel
theorem awakeN (k : Nat) : caravanlaw8_awake.f (k + 10) = some true := by
  induction k with
  | zero => exact awake10
  | succ k ih => exact caravanlaw8_awake.mono _ _ ih
theorem w1 {i : Nat} (h : i < 1000000) : wrap64 ((i : Int) + 1) = ((i + 1 : Nat) : Int) := by unfold wrap64; omega
/-- letters makes as many texts as there are numbers. -/
theorem letters_said (ns : List Int) (hn : ns.length < 1000000) : ∀ (m i : Nat) (x : List ByteArray), i + m = ns.length → x.length = i → ∃ r, caravanlaw8_letters.l0 (m + 1) ns x (i : Int) = some r ∧ r.length = ns.length
  | 0, i, x, h, hx => by
    refine ⟨x, ?_, by omega⟩
    rw [caravanlaw8_letters.l0, if_neg (by omega)]
  | m + 1, i, x, h, hx => by
    obtain ⟨r, ih, hr⟩ := letters_said ns hn m (i + 1) (x ++ [strOfNums (([(97 + (Int.tmod (rd ns i) 4)) % 256] : List Int))]) (by omega) (by rw [List.length_append, hx]; rfl)
    generalize m + 1 = q at ih ⊢
    rw [caravanlaw8_letters.l0, if_pos (by omega), if_pos (by omega), if_pos (by omega), w1 (by omega)]
    exact ⟨r, ih, hr⟩
theorem letters_f (ns : List Int) (hn : ns.length < 1000000) : ∃ r, caravanlaw8_letters.f (ns.length + 1) ns = some r ∧ r.length = ns.length := by
  unfold caravanlaw8_letters.f
  exact letters_said ns hn ns.length 0 [] (by omega) rfl
theorem rdOf_nat (l : List ByteArray) (i : Nat) : rdOf ByteArray.empty l (i : Int) = l[i]?.getD ByteArray.empty := by
  unfold rdOf
  rw [Int.toNat_natCast, List.getD_eq_getElem?_getD]
open Rem
/-- A place that goes. -/
theorem st_gone {L o : List ByteArray} {v : ByteArray} {k w s a cc i : Nat} (hL : L.length ≤ 60) (hi : i < L.length) (hw : w ≤ 60) (_hs : s ≤ 60) (hcc : cc ≤ 60) (hh : (L[i]?.getD ByteArray.empty).toList = v.toList) (h2 : s < cc + 1) (h3 : cc + 1 ≤ s + w)
    (ih : caravanlaw8_ListRems.l1 k L v o (w : Int) (s : Int) (a : Int) ((cc + 1 : Nat) : Int) ((i + 1 : Nat) : Int) = some true) : caravanlaw8_ListRems.l1 (k + 1 + 1) L v o (w : Int) (s : Int) (a : Int) (cc : Int) (i : Int) = some true := by
  have d1 : (i : Int) < (L.length : Int) := by omega
  have d2 : 0 ≤ (i : Int) := by omega
  have d3 : ((cc + 1 : Nat) : Int) > (s : Int) := by omega
  have d4 : ((cc + 1 : Nat) : Int) ≤ ((s + w : Nat) : Int) := by omega
  obtain ⟨hw1, hw2, hw4⟩ : (wrap64 ((cc : Int) + 1) = ((cc + 1 : Nat) : Int)) ∧ (wrap64 ((i : Int) + 1) = ((i + 1 : Nat) : Int)) ∧ (wrap64 ((s : Int) + (w : Int)) = ((s + w : Nat) : Int)) := ⟨w1 (by omega), w1 (by omega), (by unfold wrap64; omega)⟩
  rw [caravanlaw8_ListRems.l1, if_pos d1, if_pos d2, rdOf_nat, if_pos hh, hw1, if_pos d3, hw4, decide_eq_true d4, caravanlaw8_ListRems.j5, if_pos rfl, hw2]
  exact ih
/-- A place at which v stands, and which stays. -/
theorem st_hit {L o : List ByteArray} {v : ByteArray} {k w s a cc i : Nat} (hL : L.length ≤ 60) (hi : i < L.length) (hw : w ≤ 60) (hs : s ≤ 60) (hcc : cc ≤ 60) (ha : a ≤ 60) (hh : (L[i]?.getD ByteArray.empty).toList = v.toList) (h2 : ¬ (s < cc + 1 ∧ cc + 1 ≤ s + w)) (hal : a < o.length) (hoe : o[a]?.getD ByteArray.empty = L[i]?.getD ByteArray.empty)
    (ih : caravanlaw8_ListRems.l1 k L v o (w : Int) (s : Int) ((a + 1 : Nat) : Int) ((cc + 1 : Nat) : Int) ((i + 1 : Nat) : Int) = some true) : caravanlaw8_ListRems.l1 (k + 1 + 1) L v o (w : Int) (s : Int) (a : Int) (cc : Int) (i : Int) = some true := by
  have d1 : (i : Int) < (L.length : Int) := by omega
  have d2 : 0 ≤ (i : Int) := by omega
  have d3 : ¬ ((a : Int) ≥ (o.length : Int)) := by omega
  have hoe2 : (o[a]?.getD ByteArray.empty).toList = (L[i]?.getD ByteArray.empty).toList := by rw [hoe]
  have d4 : 0 ≤ (a : Int) := by omega
  have d5 : (a : Int) < (o.length : Int) := by omega
  obtain ⟨hw1, hw2, hw3, hw4⟩ : (wrap64 ((cc : Int) + 1) = ((cc + 1 : Nat) : Int)) ∧ (wrap64 ((i : Int) + 1) = ((i + 1 : Nat) : Int)) ∧ (wrap64 ((a : Int) + 1) = ((a + 1 : Nat) : Int)) ∧ (wrap64 ((s : Int) + (w : Int)) = ((s + w : Nat) : Int)) := ⟨w1 (by omega), w1 (by omega), w1 (by omega), (by unfold wrap64; omega)⟩
  have hj : caravanlaw8_ListRems.j5 (k + 1) L v o (w : Int) (s : Int) (a : Int) ((cc + 1 : Nat) : Int) (i : Int) false = some true := by
    rw [caravanlaw8_ListRems.j5, if_neg Bool.false_ne_true, if_neg d3, if_pos d4, if_pos d5, if_pos d2, if_pos d1, rdOf_nat, rdOf_nat, if_pos hoe2, hw2, hw3]
    exact ih
  rw [caravanlaw8_ListRems.l1, if_pos d1, if_pos d2, rdOf_nat, if_pos hh, hw1, hw4]
  by_cases hc : ((cc + 1 : Nat) : Int) > (s : Int)
  · have d6 : ¬ (((cc + 1 : Nat) : Int) ≤ ((s + w : Nat) : Int)) := by clear hw1 hw2 hw3 hw4 hj ih; omega
    rw [if_pos hc, decide_eq_false d6]
    exact hj
  · rw [if_neg hc]
    exact hj
/-- A place of another text. -/
theorem st_other {L o : List ByteArray} {v : ByteArray} {k w s a cc i : Nat} (hL : L.length ≤ 60) (hi : i < L.length) (ha : a ≤ 60) (hh : ¬ (L[i]?.getD ByteArray.empty).toList = v.toList) (hal : a < o.length) (hoe : o[a]?.getD ByteArray.empty = L[i]?.getD ByteArray.empty)
    (ih : caravanlaw8_ListRems.l1 k L v o (w : Int) (s : Int) ((a + 1 : Nat) : Int) (cc : Int) ((i + 1 : Nat) : Int) = some true) : caravanlaw8_ListRems.l1 (k + 1) L v o (w : Int) (s : Int) (a : Int) (cc : Int) (i : Int) = some true := by
  have d1 : (i : Int) < (L.length : Int) := by omega
  have d2 : 0 ≤ (i : Int) := by omega
  have d3 : ¬ ((a : Int) ≥ (o.length : Int)) := by omega
  have hoe2 : (o[a]?.getD ByteArray.empty).toList = (L[i]?.getD ByteArray.empty).toList := by rw [hoe]
  have d4 : 0 ≤ (a : Int) := by omega
  have d5 : (a : Int) < (o.length : Int) := by omega
  obtain ⟨hw2, hw3⟩ : (wrap64 ((i : Int) + 1) = ((i + 1 : Nat) : Int)) ∧ (wrap64 ((a : Int) + 1) = ((a + 1 : Nat) : Int)) := ⟨w1 (by omega), w1 (by omega)⟩
  rw [caravanlaw8_ListRems.l1, if_pos d1, if_pos d2, rdOf_nat, if_neg hh, if_neg d3, if_pos d4, if_pos d5, rdOf_nat, if_pos hoe2, hw2, hw3]
  exact ih
theorem st_end {L o : List ByteArray} {v : ByteArray} {k i w s cc : Nat} (hk : caravanlaw8_awake.f k = some true) (hi : i = L.length) :
    caravanlaw8_ListRems.l1 (k + 1) L v o (w : Int) (s : Int) (o.length : Int) (cc : Int) (i : Int) = some true := by
  have d1 : ¬ ((i : Int) < (L.length : Int)) := by omega
  rw [caravanlaw8_ListRems.l1, if_neg d1, if_pos rfl, hk]
  rfl
theorem skip_le (L : List ByteArray) (n : Int) (v : ByteArray) : skip L n v ≤ c L v L.length := by unfold skip; split <;> omega
theorem l1_said (L : List ByteArray) (n : Int) (v : ByteArray) (hL : L.length ≤ 60) : ∀ (m i : Nat), i + m = L.length →
    ∃ k, caravanlaw8_ListRems.l1 k L v (out L n v) (want L n v : Int) (skip L n v : Int) (at_ L n v i : Int) (c L v i : Int) (i : Int) = some true
  | 0, i, h => by
    obtain rfl : i = L.length := h
    obtain ⟨q, hq⟩ : ∃ q, caravanlaw8_awake.f q = some true := ⟨_, awake10⟩
    rw [at_le]
    exact ⟨q + 1, st_end hq rfl⟩
  | m + 1, i, h => by
    obtain ⟨k, ih⟩ := l1_said L n v hL m (i + 1) (by clear l1_said; omega)
    clear l1_said
    have hi : i < L.length := by omega
    have hm := gone_mem L n v i hi
    have hc := c_succ L v i
    have ha := at_succ L n v i hi
    have hae := Nat.le.intro (at_eq L n v i (Nat.le_of_lt hi))
    have hcl := c_le L v i
    have hwl := want_le L n v
    have hcL := c_le L v L.length
    have hsl := skip_le L n v
    have b1 : want L n v ≤ 60 := Nat.le_trans hwl (Nat.le_trans hcL hL)
    have b2 : skip L n v ≤ 60 := Nat.le_trans hsl (Nat.le_trans hcL hL)
    have b0 : i ≤ 60 := Nat.le_trans (Nat.le_of_lt hi) hL
    have b3 : c L v i ≤ 60 := Nat.le_trans hcl b0
    have b4 : at_ L n v i ≤ 60 := Nat.le_trans hae b0
    by_cases hg : (i : Int) ∈ gone L n v
    · obtain ⟨h1, h2, h3⟩ := hm.1 hg
      rw [if_pos h1] at hc
      rw [if_pos hg] at ha
      rw [hc, ha] at ih
      exact ⟨k + 1 + 1, st_gone hL hi b1 b2 b3 h1 h2 h3 ih⟩
    · rw [if_neg hg] at ha
      have ho := out_at L n v i hi hg
      have hal : at_ L n v i < (out L n v).length := (List.getElem?_eq_some_iff.1 ho).1
      have hoe : (out L n v)[at_ L n v i]?.getD ByteArray.empty = L[i]?.getD ByteArray.empty := by rw [ho]; rfl
      by_cases hh : hit L v i
      · rw [if_pos hh] at hc
        rw [hc, ha] at ih
        exact ⟨k + 1 + 1, st_hit hL hi b1 b2 b3 b4 hh (fun hx => hg (hm.2 ⟨hh, hx⟩)) hal hoe ih⟩
      · rw [if_neg hh] at hc
        rw [hc, ha] at ih
        exact ⟨k + 1, st_other hL hi b4 hh hal hoe ih⟩
/-- Behind the count. -/
theorem l0_end {L o : List ByteArray} {n : Int} {v : ByteArray} {k ct w s : Nat} (hL : L.length ≤ 60) (hct : ct ≤ 60) (hn0 : -128 ≤ n) (hn1 : n ≤ 127) (hrem : list_Rem.f L n v = some (o, (w : Int))) (hol : o.length + w = L.length)
    (hw : w = if n = 0 then ct else min ct n.natAbs) (hs : s = if n < 0 then ct - w else 0)
    (ih : caravanlaw8_ListRems.l1 k L v o (w : Int) (s : Int) 0 0 0 = some true) : caravanlaw8_ListRems.l0 (k + 1 + 1 + 1 + 1) n L v (ct : Int) (L.length : Int) = some true := by
  obtain ⟨hwn, hwm, hws, hwk⟩ : (wrap64 n = n) ∧ (wrap64 (-n) = -n) ∧ (wrap64 ((L.length : Int) - (w : Int)) = (o.length : Int)) ∧ (wrap64 ((ct : Int) - (w : Int)) = ((ct - w : Nat) : Int)) := ⟨(by unfold wrap64; omega), (by unfold wrap64; omega), (by unfold wrap64; omega), (by unfold wrap64; split at hw <;> omega)⟩
  have hj : caravanlaw8_ListRems.j1 (k + 1 + 1 + 1) n L v (ct : Int) o (w : Int) (w : Int) = some true := by
    rw [caravanlaw8_ListRems.j1, if_pos rfl, hws, caravanlaw8_ListRems.j2, if_neg (by simp)]
    by_cases hneg : n < 0
    · rw [if_pos hneg] at hs
      rw [if_pos hneg, hwk, caravanlaw8_ListRems.j3, ← hs]
      exact ih
    · rw [if_neg hneg] at hs
      rw [if_neg hneg, caravanlaw8_ListRems.j3]
      rw [hs] at ih
      exact ih
  have d1 : ¬ ((L.length : Int) < (L.length : Int)) := by omega
  rw [caravanlaw8_ListRems.l0, if_neg d1, hwn, hrem, Option.bind_some, hwm]
  by_cases h0 : n = 0
  · rw [if_pos h0] at hw
    rw [if_pos h0]
    subst hw
    exact hj
  · rw [if_neg h0] at hw
    have hm : mn (ct : Int) (mx n (-n)) = (w : Int) := by
      unfold mn mx
      split <;> split <;> omega
    rw [if_neg h0, hm]
    exact hj
theorem l0_step {L : List ByteArray} {n : Int} {v : ByteArray} {k ct i : Nat} (hi : i < L.length) (hL : L.length ≤ 60) (hct : ct ≤ 60)
    (ih : caravanlaw8_ListRems.l0 k n L v ((ct + (if (L[i]?.getD ByteArray.empty).toList = v.toList then 1 else 0) : Nat) : Int) ((i + 1 : Nat) : Int) = some true) : caravanlaw8_ListRems.l0 (k + 1) n L v (ct : Int) (i : Int) = some true := by
  have d1 : (i : Int) < (L.length : Int) := by omega
  have d2 : 0 ≤ (i : Int) := by omega
  rw [caravanlaw8_ListRems.l0, if_pos d1, if_pos d2, rdOf_nat, w1 (show ct < 1000000 by omega), w1 (show i < 1000000 by omega)]
  by_cases hh : (L[i]?.getD ByteArray.empty).toList = v.toList
  · rw [if_pos hh] at ih
    rw [if_pos hh]
    exact ih
  · rw [if_neg hh] at ih
    rw [if_neg hh]
    exact ih
theorem l0_said (L : List ByteArray) (n : Int) (v : ByteArray) (hL : L.length ≤ 60) (hn0 : -128 ≤ n) (hn1 : n ≤ 127) : ∀ (m i : Nat), i + m = L.length →
    ∃ k, caravanlaw8_ListRems.l0 k n L v (c L v i : Int) (i : Int) = some true
  | 0, i, h => by
    obtain rfl : i = L.length := h
    obtain ⟨k, hk⟩ := l1_said L n v hL L.length 0 (Nat.zero_add _)
    have hrem : list_Rem.f L n v = some (out L n v, (want L n v : Int)) := by unfold list_Rem.f; rw [if_pos (Nat.lt_of_le_of_lt hL (by decide)), gone_length]
    exact ⟨_, l0_end hL (Nat.le_trans (c_le L v L.length) hL) hn0 hn1 hrem (out_length L n v) rfl rfl hk⟩
  | m + 1, i, h => by
    obtain ⟨k, ih⟩ := l0_said L n v hL hn0 hn1 m (i + 1) (by clear l0_said; omega)
    clear l0_said
    have hi : i < L.length := by omega
    have hc := c_succ L v i
    rw [hc] at ih
    exact ⟨k + 1, l0_step hi hL (Nat.le_trans (c_le L v i) (Nat.le_trans (Nat.le_of_lt hi) hL)) ih⟩
theorem ListRems : caravanlaw8_ListRems.Pure := by
  intro l0 a1 a2 hm hb hw hw1 hw2
  have hn : -128 ≤ a1 ∧ a1 ≤ 127 := by
    simp [Lit.wf, IntKind.min, IntKind.max, IntKind.signed, IntKind.bits] at hw1
    omega
  by_cases hl : (l0.length : Int) > 60
  · refine ⟨10, ?_⟩
    unfold caravanlaw8_ListRems.f
    rw [if_pos hl, awake10]
    rfl
  · obtain ⟨L, hL, hLl⟩ := letters_f l0 (by omega)
    obtain ⟨k, hk⟩ := l0_said L a1 (strOfNums (([(97 + (Int.tmod a2 4)) % 256] : List Int))) (by omega) hn.1 hn.2 L.length 0 (by omega)
    refine ⟨k + (l0.length + 1), ?_⟩
    unfold caravanlaw8_ListRems.f
    rw [if_neg hl, at_rounds (caravanlaw8_letters.mono l0) (show l0.length + 1 ≤ k + (l0.length + 1) by omega) hL, Option.bind_some]
    exact at_rounds (fun k => (caravanlaw8_ListRems.mono_l k).1 a1 L _ 0 0) (show k ≤ k + (l0.length + 1) by omega) hk
end Go.Proofs.Ytheooomdhbleeaa.Pure

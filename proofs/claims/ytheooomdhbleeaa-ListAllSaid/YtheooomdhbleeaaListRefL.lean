/-
  What the document's own functions of rows of texts answer, from some number of rounds on. Plain lists. Conditions: none.
-/
import Derived.Test.YtheooomdhbleeaaListL
import Derived.Test.YtheooomdhbleeaaRemL
import Derived.Test.YtheooomdhbleeaaLYx4
import Derived.Test.YtheooomdhbleeaaLYx5
namespace Go.Proofs.Ytheooomdhbleeaa.Pure
open Go.RowKit Go.Proofs.Ytheooomdhbleeaa.LY Go.Proofs.YtheooomdhbleeaaW.PrintWords Go.Proofs.YtheooomdhbleeaaW.PrintLast Go.Proofs.YtheooomdhbleeaaW.PrintMore
/-! ### great -/
theorem great_said (l : List ByteArray) : ∀ (m i : Nat), i + m = 101 → ∃ b, Ev (fun k => caravanlaw8_great.l0 k l (i : Int)) b ∧ (b = false → l.length ≤ 80)
  | 0, i, h => by
    refine ⟨decide ((l.length : Int) > 80), ?_, fun hb => by have := of_decide_eq_false hb; omega⟩
    refine Ev.step (f := fun k => caravanlaw8_great.j1 k l (i : Int) false) (fun k => ?_) (Ev.step (f := fun _ => some (decide ((l.length : Int) > 80))) (fun k => ?_) (Ev.now _))
    · show caravanlaw8_great.l0 (k + 1) l (i : Int) = _
      have d : ¬ ((i : Int) < 100) := by omega
      rw [caravanlaw8_great.l0]
      by_cases hi : (i : Int) < (l.length : Int)
      · rw [if_pos hi, decide_eq_false d]
      · rw [if_neg hi]
    · show caravanlaw8_great.j1 (k + 1) l (i : Int) false = _
      rw [caravanlaw8_great.j1, if_neg Bool.false_ne_true]
  | m + 1, i, h => by
    obtain ⟨b, ih, hb⟩ := great_said l m (i + 1) (by omega)
    have fin : ∀ g : Nat → Option Bool, (∀ k, g (k + 1) = caravanlaw8_great.j1 k l (i : Int) false) → ∃ b, Ev g b ∧ (b = false → l.length ≤ 80) := by
      intro g hg
      refine ⟨decide ((l.length : Int) > 80), ?_, fun hb => by have := of_decide_eq_false hb; omega⟩
      refine Ev.step (f := fun k => caravanlaw8_great.j1 k l (i : Int) false) hg (Ev.step (f := fun _ => some (decide ((l.length : Int) > 80))) (fun k => ?_) (Ev.now _))
      show caravanlaw8_great.j1 (k + 1) l (i : Int) false = _
      rw [caravanlaw8_great.j1, if_neg Bool.false_ne_true]
    by_cases hi : (i : Int) < (l.length : Int)
    · by_cases d : (i : Int) < 100
      · have d0 : (0 : Int) ≤ (i : Int) := by omega
        have hstep : ∀ k, caravanlaw8_great.l0 (k + 1) l (i : Int) = caravanlaw8_great.j1 k l (i : Int) true := fun k => by rw [caravanlaw8_great.l0, if_pos hi, decide_eq_true d]
        by_cases hs : ((rdOf ByteArray.empty l (i : Int)).size : Int) > 200
        · refine ⟨true, Ev.step hstep (Ev.step (f := fun _ => some true) (fun k => ?_) (Ev.now _)), fun hb => by cases hb⟩
          show caravanlaw8_great.j1 (k + 1) l (i : Int) true = _
          rw [caravanlaw8_great.j1, if_pos rfl, if_pos d0, if_pos hi, if_pos hs]
        · refine ⟨b, Ev.step hstep (Ev.step (f := fun k => caravanlaw8_great.l0 k l ((i + 1 : Nat) : Int)) (fun k => ?_) ih), hb⟩
          show caravanlaw8_great.j1 (k + 1) l (i : Int) true = _
          rw [caravanlaw8_great.j1, if_pos rfl, if_pos d0, if_pos hi, if_neg hs, w1 (by clear hs; omega)]
      · exact fin _ (fun k => by rw [caravanlaw8_great.l0, if_pos hi, decide_eq_false d])
    · exact fin _ (fun k => by rw [caravanlaw8_great.l0, if_neg hi])
theorem great_ev (l : List ByteArray) : ∃ b, Ev (fun k => caravanlaw8_great.f k l) b ∧ (b = false → l.length ≤ 80) := great_said l 101 0 rfl
/-! ### Places -/
theorem rplace_said (n : Nat) (a : Int) (h0 : -9223372036854775808 ≤ a) (hn : n < 1000000000) : caravanref5_place.f (n : Int) a = some (if 0 ≤ pl n a ∧ pl n a < (n : Int) then pl n a else -1) := by
  unfold caravanref5_place.f pl
  by_cases h : a < 0
  · rw [if_pos h, if_pos h, wn (by omega) (by omega), Int.add_comm (n : Int) a]
    by_cases h2 : a + (n : Int) < 0
    · rw [if_pos h2, if_neg (by omega)]
    · rw [if_neg h2, if_neg (by omega), if_pos (by omega)]
  · rw [if_neg h, if_neg h]
    by_cases h2 : a ≥ (n : Int)
    · rw [if_pos h2, if_neg (by omega)]
    · rw [if_neg h2, if_pos (by omega)]
theorem rat_in {l : List ByteArray} {a : Int} {i : Nat} (h0 : -9223372036854775808 ≤ a) (hl : l.length < 1000000000) (hi : i < l.length) (ha : pl l.length a = (i : Int)) : caravanref5_At.f l a = some (l[i]?.getD ByteArray.empty, true) := by
  have d1 : (0 : Int) ≤ (i : Int) := by omega
  have d2 : (i : Int) < (l.length : Int) := by omega
  unfold caravanref5_At.f
  rw [rplace_said l.length a h0 hl, ha, if_pos ⟨d1, d2⟩, Option.bind_some, if_neg (by omega), if_pos d1, if_pos d2, rdOf_nat]
theorem rat_out {l : List ByteArray} {a : Int} (h0 : -9223372036854775808 ≤ a) (hl : l.length < 1000000000) (ha : ¬ (0 ≤ pl l.length a ∧ pl l.length a < (l.length : Int))) : caravanref5_At.f l a = some (⟨#[]⟩, false) := by
  unfold caravanref5_At.f
  rw [rplace_said l.length a h0 hl, Option.bind_some, if_neg ha, if_pos (by omega)]
theorem rset_in {l : List ByteArray} {a : Int} {i : Nat} {v : ByteArray} (h0 : -9223372036854775808 ≤ a) (hl : l.length < 1000000000) (hi : i < l.length) (ha : pl l.length a = (i : Int)) : caravanref5_LSet.f l a v = some (l.set i v, true) := by
  have d1 : (0 : Int) ≤ (i : Int) := by omega
  have d2 : (i : Int) < (l.length : Int) := by omega
  unfold caravanref5_LSet.f
  rw [rplace_said l.length a h0 hl, ha, if_pos ⟨d1, d2⟩, Option.bind_some, if_neg (by omega), Option.bind_some, if_pos (by show 0 + _ < _; omega), Option.bind_some, List.nil_append, if_pos d1, if_pos d2, Int.toNat_natCast]
theorem rset_out {l : List ByteArray} {a : Int} {v : ByteArray} (h0 : -9223372036854775808 ≤ a) (hl : l.length < 1000000000) (ha : ¬ (0 ≤ pl l.length a ∧ pl l.length a < (l.length : Int))) : caravanref5_LSet.f l a v = some ([], false) := by
  unfold caravanref5_LSet.f
  rw [rplace_said l.length a h0 hl, Option.bind_some, if_neg ha, if_pos (by omega)]
/-! ### Parts -/
theorem rcut_said (n : Nat) (a b : Int) (ha : -9223372036854775808 ≤ a) (hb : -9223372036854775808 ≤ b) (hn : n < 1000000000) :
    caravanref5_Cut.f (n : Int) a b = some (max (pl n a) 0, min (pl n b) ((n : Int) - 1)) := by
  have hw : wrap64 ((n : Int) - 1) = (n : Int) - 1 := wn (by omega) (by omega)
  have hp : ∀ x : Int, -9223372036854775808 ≤ x → x < 0 → wrap64 ((n : Int) + x) = x + (n : Int) := fun x h0 h1 => by clear hw; rw [wn (by omega) (by omega)]; omega
  unfold caravanref5_Cut.f
  rw [hw]
  have m1 : ∀ x : Int, mx 0 x = max x 0 := fun x => by rw [mx_eq]; omega
  by_cases h : a < 0
  · have e1 : pl n a = a + (n : Int) := if_pos h
    rw [if_pos h, e1, hp a ha h, m1]
    by_cases k : b < 0
    · have e2 : pl n b = b + (n : Int) := if_pos k
      rw [if_pos k, hp b hb k, mn_eq, e2]
    · have e2 : pl n b = b := if_neg k
      rw [if_neg k, mn_eq, e2]
  · have e1 : pl n a = a := if_neg h
    have e3 : max a 0 = a := by omega
    rw [if_neg h, e1, e3]
    by_cases k : b < 0
    · have e2 : pl n b = b + (n : Int) := if_pos k
      rw [if_pos k, hp b hb k, mn_eq, e2]
    · have e2 : pl n b = b := if_neg k
      rw [if_neg k, mn_eq, e2]
theorem rsub_said {l : List ByteArray} {a b : Int} {lo hi : Nat} (hl : l.length < 1000000000) (ha : -9223372036854775808 ≤ a) (hb : -9223372036854775808 ≤ b)
    (hlo : (lo : Int) = max (pl l.length a) 0) (hhi : (hi : Int) = max 0 (min (pl l.length b) ((l.length : Int) - 1) + 1)) : caravanref5_LSub.f l a b = some ((l.take hi).drop lo) := by
  unfold caravanref5_LSub.f
  have hq : min (pl l.length b) ((l.length : Int) - 1) ≤ (l.length : Int) - 1 := by omega
  rw [rcut_said l.length a b ha hb hl, Option.bind_some]
  obtain ⟨q, hq2⟩ : ∃ q, min (pl l.length b) ((l.length : Int) - 1) = q := ⟨_, rfl⟩
  rw [hq2] at hhi hq ⊢
  rw [← hlo]
  show (if (lo : Int) > q then _ else _) = _
  by_cases hc : (lo : Int) > q
  · have he : (l.take hi).drop lo = [] := by
      rw [List.drop_eq_nil_iff, List.length_take]
      omega
    rw [if_pos hc, he]
  · have hi2 : q + 1 = (hi : Int) := by omega
    have d1 : (0 : Int) ≤ (lo : Int) := by omega
    have d2 : (lo : Int) ≤ (hi : Int) := by omega
    have d3 : (hi : Int) ≤ (l.length : Int) := by omega
    have hw : wrap64 (q + 1) = (hi : Int) := by rw [wn (by omega) (by omega), hi2]
    rw [if_neg hc, Option.bind_some]
    show (if (0 : Int) ≤ (lo : Int) then (if (lo : Int) ≤ wrap64 (q + 1) then (if wrap64 (q + 1) ≤ (l.length : Int) then (if ([] : List ByteArray).length + ((l.take (wrap64 (q + 1)).toNat).drop (lo : Int).toNat).length < 8796093022208 then some ([] ++ ((l.take (wrap64 (q + 1)).toNat).drop (lo : Int).toNat)) else none) else none) else none) else none) = _
    rw [hw, if_pos d1, if_pos d2, if_pos d3, Int.toNat_natCast, Int.toNat_natCast, if_pos (by rw [List.length_drop, List.length_take]; show 0 + _ < _; clear hw; omega), List.nil_append]
/-! ### Pushing -/
theorem rpush_front (l v : List ByteArray) (hl : l.length ≤ 80) (hv : v.length ≤ 80) : ∀ (m i : Nat), i + m = v.length →
    Ev (fun k => caravanref5_Push.l0 k true v ((v.take i).reverse ++ l) (i : Int)) (v.reverse ++ l)
  | 0, i, h => by
    have d1 : ¬ ((i : Int) < (v.length : Int)) := by omega
    refine Ev.step (f := fun _ => some (v.reverse ++ l)) (fun k => ?_) (Ev.now _)
    show caravanref5_Push.l0 (k + 1) true v ((v.take i).reverse ++ l) (i : Int) = _
    rw [caravanref5_Push.l0, if_neg d1, List.take_of_length_le (by omega)]
  | m + 1, i, h => by
    have ih := rpush_front l v hl hv m (i + 1) (by omega)
    have d1 : (i : Int) < (v.length : Int) := by omega
    have d2 : (0 : Int) ≤ (i : Int) := by omega
    refine Ev.step (fun k => ?_) ih
    show caravanref5_Push.l0 (k + 1) true v ((v.take i).reverse ++ l) (i : Int) = caravanref5_Push.l0 k true v ((v.take (i + 1)).reverse ++ l) ((i + 1 : Nat) : Int)
    have e : (v.take (i + 1)).reverse ++ l = [v[i]?.getD ByteArray.empty] ++ ((v.take i).reverse ++ l) := by
      rw [Rem.take_at (by omega) rfl, List.reverse_append]
      simp
    rw [caravanref5_Push.l0, if_pos d1, if_pos rfl, if_pos d2, Option.bind_some, if_pos (by rw [List.length_append, List.length_reverse, List.length_take]; show 1 + _ < _; omega), w1 (by omega), rdOf_nat, e]
theorem rpush_back (l v : List ByteArray) (hl : l.length ≤ 80) (hv : v.length ≤ 80) : ∀ (m i : Nat), i + m = v.length →
    Ev (fun k => caravanref5_Push.l0 k false v (l ++ v.take i) (i : Int)) (l ++ v)
  | 0, i, h => by
    have d1 : ¬ ((i : Int) < (v.length : Int)) := by omega
    refine Ev.step (f := fun _ => some (l ++ v)) (fun k => ?_) (Ev.now _)
    show caravanref5_Push.l0 (k + 1) false v (l ++ v.take i) (i : Int) = _
    rw [caravanref5_Push.l0, if_neg d1, List.take_of_length_le (by omega)]
  | m + 1, i, h => by
    have ih := rpush_back l v hl hv m (i + 1) (by omega)
    have d1 : (i : Int) < (v.length : Int) := by omega
    have d2 : (0 : Int) ≤ (i : Int) := by omega
    refine Ev.step (fun k => ?_) ih
    show caravanref5_Push.l0 (k + 1) false v (l ++ v.take i) (i : Int) = caravanref5_Push.l0 k false v (l ++ v.take (i + 1)) ((i + 1 : Nat) : Int)
    rw [caravanref5_Push.l0, if_pos d1, if_neg Bool.false_ne_true, if_pos d2, if_pos (by rw [List.length_append, List.length_take]; omega), w1 (by omega), rdOf_nat, Rem.take_at (by omega) rfl, List.append_assoc]
theorem rpush_ev (l v : List ByteArray) (b : Bool) (hl : l.length ≤ 80) (hv : v.length ≤ 80) : Ev (fun k => caravanref5_Push.f k l b v) (if b = true then v.reverse ++ l else l ++ v) := by
  refine Ev.congr (f := fun k => caravanref5_Push.l0 k b v l 0) (fun k => ?_) ?_
  · show caravanref5_Push.f k l b v = _
    unfold caravanref5_Push.f
    rw [Option.bind_some, if_pos (by show 0 + _ < _; omega), List.nil_append]
  · cases b with
    | true => exact rpush_front l v hl hv v.length 0 (by omega)
    | false =>
      have h := rpush_back l v hl hv v.length 0 (by omega)
      rw [List.take_zero, List.append_nil] at h
      exact h
/-! ### Taking away -/
open Rem
/-- So many of those that go stand ahead of place i. -/
def went (l : List ByteArray) (n : Int) (v : ByteArray) (i : Nat) : Nat := min (want l n v) (c l v i - skip l n v)
theorem st_gone {L o : List ByteArray} {v : ByteArray} {k s t sn wt i : Nat} (hL : L.length ≤ 80) (hi : i < L.length) (hsn : sn ≤ 80) (hwt : wt ≤ 80) (hh : (L[i]?.getD ByteArray.empty).toList = v.toList) (h2 : s ≤ sn) (h3 : sn < t) :
    caravanref5_Rem.l1 (k + 1) L v (s : Int) (t : Int) o (sn : Int) (wt : Int) (i : Int) = caravanref5_Rem.l1 k L v (s : Int) (t : Int) o ((sn + 1 : Nat) : Int) ((wt + 1 : Nat) : Int) ((i + 1 : Nat) : Int) := by
  have d1 : (i : Int) < (L.length : Int) := by omega
  have d2 : (0 : Int) ≤ (i : Int) := by omega
  have d3 : (sn : Int) ≥ (s : Int) := by omega
  have d4 : (sn : Int) < (t : Int) := by omega
  rw [caravanref5_Rem.l1, if_pos d1, if_pos d2, rdOf_nat, if_pos hh, if_pos d3, if_pos d4, w1 (by omega), w1 (by omega), w1 (by omega)]
theorem st_hit {L o : List ByteArray} {v : ByteArray} {k s t sn wt i : Nat} (hL : L.length ≤ 80) (hi : i < L.length) (hsn : sn ≤ 80) (ho : o.length ≤ 80) (hh : (L[i]?.getD ByteArray.empty).toList = v.toList) (h2 : ¬ (s ≤ sn ∧ sn < t)) :
    caravanref5_Rem.l1 (k + 1) L v (s : Int) (t : Int) o (sn : Int) (wt : Int) (i : Int) = caravanref5_Rem.l1 k L v (s : Int) (t : Int) (o ++ [L[i]?.getD ByteArray.empty]) ((sn + 1 : Nat) : Int) (wt : Int) ((i + 1 : Nat) : Int) := by
  have d1 : (i : Int) < (L.length : Int) := by omega
  have d2 : (0 : Int) ≤ (i : Int) := by omega
  have d5 : o.length < 8796093022208 := by omega
  rw [caravanref5_Rem.l1, if_pos d1, if_pos d2, rdOf_nat, if_pos hh, w1 (show sn < 1000000000 by omega), w1 (show i < 1000000000 by omega)]
  by_cases h : (sn : Int) ≥ (s : Int)
  · rw [if_pos h, if_neg (by omega), if_pos d5]
  · rw [if_neg h, if_pos d5]
theorem st_other {L o : List ByteArray} {v : ByteArray} {k s t sn wt i : Nat} (hL : L.length ≤ 80) (hi : i < L.length) (ho : o.length ≤ 80) (hh : ¬ (L[i]?.getD ByteArray.empty).toList = v.toList) :
    caravanref5_Rem.l1 (k + 1) L v (s : Int) (t : Int) o (sn : Int) (wt : Int) (i : Int) = caravanref5_Rem.l1 k L v (s : Int) (t : Int) (o ++ [L[i]?.getD ByteArray.empty]) (sn : Int) (wt : Int) ((i + 1 : Nat) : Int) := by
  have d1 : (i : Int) < (L.length : Int) := by omega
  have d2 : (0 : Int) ≤ (i : Int) := by omega
  have d5 : o.length < 8796093022208 := by omega
  rw [caravanref5_Rem.l1, if_pos d1, if_pos d2, rdOf_nat, if_neg hh, if_pos d5, w1 (by omega)]
theorem skip_le (L : List ByteArray) (n : Int) (v : ByteArray) : skip L n v ≤ c L v L.length := by unfold skip; split <;> omega
theorem went_arith {w s cc : Nat} : (s ≤ cc ∧ cc < s + w → min w (cc + 1 - s) = min w (cc - s) + 1) ∧ (¬ (s ≤ cc ∧ cc < s + w) → min w (cc + 1 - s) = min w (cc - s)) := by omega
theorem rrem_l1 (L : List ByteArray) (n : Int) (v : ByteArray) (hL : L.length ≤ 80) : ∀ (m i : Nat), i + m = L.length →
    Ev (fun k => caravanref5_Rem.l1 k L v (skip L n v : Int) ((skip L n v + want L n v : Nat) : Int) (outFrom (gone L n v) 0 (L.take i)) (c L v i : Int) (went L n v i : Int) (i : Int)) (out L n v, (want L n v : Int))
  | 0, i, h => by
    obtain rfl : i = L.length := h
    have hw : went L n v L.length = want L n v := by
      unfold went
      have h1 := want_le L n v
      unfold skip
      split <;> omega
    refine Ev.step (f := fun _ => some (out L n v, (want L n v : Int))) (fun k => ?_) (Ev.now _)
    show caravanref5_Rem.l1 (k + 1) L v _ _ (outFrom (gone L n v) 0 (L.take L.length)) _ _ _ = _
    have d1 : ¬ ((L.length : Int) < (L.length : Int)) := Int.lt_irrefl _
    rw [caravanref5_Rem.l1, if_neg d1, hw, List.take_length]
    rfl
  | m + 1, i, h => by
    have ih := rrem_l1 L n v hL m (i + 1) (by clear rrem_l1; omega)
    clear rrem_l1
    have hi : i < L.length := by omega
    have hm := gone_mem L n v i hi
    have hc := c_succ L v i
    have hw := went_arith (w := want L n v) (s := skip L n v) (cc := c L v i)
    have b0 : i ≤ 80 := Nat.le_trans (Nat.le_of_lt hi) hL
    have b1 : c L v i ≤ 80 := Nat.le_trans (c_le L v i) b0
    have b2 : went L n v i ≤ 80 := Nat.le_trans (Nat.le_trans (Nat.min_le_right _ _) (Nat.sub_le _ _)) b1
    have hae := Nat.le.intro (at_eq L n v i (Nat.le_of_lt hi))
    have b3 : (outFrom (gone L n v) 0 (L.take i)).length ≤ 80 := Nat.le_trans hae b0
    have ho : outFrom (gone L n v) 0 (L.take (i + 1)) = outFrom (gone L n v) 0 (L.take i) ++ (if (i : Int) ∈ gone L n v then [] else [L[i]?.getD ByteArray.empty]) := by
      rw [take_at hi rfl, outFrom_append, List.length_take, Nat.min_eq_left (Nat.le_of_lt hi), Nat.zero_add]
    by_cases hg : (i : Int) ∈ gone L n v
    · obtain ⟨h1, h2, h3⟩ := hm.1 hg
      rw [if_pos h1] at hc
      rw [if_pos hg, List.append_nil] at ho
      have hwe : went L n v (i + 1) = went L n v i + 1 := by
        unfold went
        rw [hc]
        exact hw.1 ⟨Nat.le_of_lt_succ h2, h3⟩
      rw [hc, ho, hwe] at ih
      exact Ev.step (fun k => st_gone hL hi b1 b2 h1 (Nat.le_of_lt_succ h2) h3) ih
    · rw [if_neg hg] at ho
      by_cases hh : hit L v i
      · rw [if_pos hh] at hc
        have hn : ¬ (skip L n v ≤ c L v i ∧ c L v i < skip L n v + want L n v) := fun hx => hg (hm.2 ⟨hh, Nat.lt_succ_of_le hx.1, hx.2⟩)
        have hwe : went L n v (i + 1) = went L n v i := by
          unfold went
          rw [hc]
          exact hw.2 hn
        rw [hc, ho, hwe] at ih
        exact Ev.step (fun k => st_hit hL hi b1 b3 hh hn) ih
      · rw [if_neg hh] at hc
        have hwe : went L n v (i + 1) = went L n v i := by
          unfold went
          rw [hc]
          rfl
        rw [hc, ho, hwe] at ih
        exact Ev.step (fun k => st_other hL hi b3 hh) ih
theorem rrem_mid {L o : List ByteArray} {n : Int} {v : ByteArray} {ct w s : Nat} (hct : ct ≤ 80) (hn0 : -9223372036854775808 ≤ n) (hn1 : n ≤ 9223372036854775807)
    (hw : w = if n = 0 then ct else min ct n.natAbs) (hs : s = if n < 0 then ct - w else 0)
    (ih : Ev (fun k => caravanref5_Rem.l1 k L v (s : Int) ((s + w : Nat) : Int) [] 0 0 0) (o, (w : Int))) : Ev (fun k => caravanref5_Rem.l0 k L n v (ct : Int) (L.length : Int)) (o, (w : Int)) := by
  have d1 : ¬ ((L.length : Int) < (L.length : Int)) := Int.lt_irrefl _
  have hj3 : Ev (fun k => caravanref5_Rem.j3 k L v (s : Int) ((s + w : Nat) : Int)) (o, (w : Int)) := Ev.step (fun k => by rw [caravanref5_Rem.j3]) ih
  have hwm : wrap64 (-(ct : Int)) = -(ct : Int) := wn (by omega) (by omega)
  by_cases hp : n > 0
  · have e : mn n (ct : Int) = ((s + w : Nat) : Int) := by
      clear hwm ih hj3
      rw [if_neg (by omega)] at hw
      rw [if_neg (by omega)] at hs
      rw [mn_eq]
      omega
    have e2 : (s : Int) = 0 := by
      clear hwm ih hj3
      rw [if_neg (by omega)] at hs
      omega
    rw [e2] at hj3
    refine Ev.step (f := fun k => caravanref5_Rem.j1 k L n v (ct : Int) 0 ((s + w : Nat) : Int)) (fun k => ?_) (Ev.step (f := fun k => caravanref5_Rem.j2 k L n v (ct : Int) 0 ((s + w : Nat) : Int) false) (fun k => ?_) (Ev.step (fun k => ?_) hj3))
    · show caravanref5_Rem.l0 (k + 1) L n v (ct : Int) (L.length : Int) = _
      rw [caravanref5_Rem.l0, if_neg d1, if_pos hp, e]
    · show caravanref5_Rem.j1 (k + 1) L n v (ct : Int) 0 ((s + w : Nat) : Int) = _
      rw [caravanref5_Rem.j1, if_neg (by clear hwm; omega)]
    · show caravanref5_Rem.j2 (k + 1) L n v (ct : Int) 0 ((s + w : Nat) : Int) false = _
      rw [caravanref5_Rem.j2, if_neg Bool.false_ne_true]
  · have e : (ct : Int) = ((s + w : Nat) : Int) := by
      clear hwm ih hj3
      by_cases h0 : n = 0
      · rw [if_pos h0] at hw
        rw [if_neg (by omega)] at hs
        omega
      · rw [if_neg h0] at hw
        rw [if_pos (by omega)] at hs
        omega
    have f0 : ∀ k, caravanref5_Rem.l0 (k + 1) L n v (ct : Int) (L.length : Int) = caravanref5_Rem.j1 k L n v (ct : Int) 0 (ct : Int) := fun k => by rw [caravanref5_Rem.l0, if_neg d1, if_neg hp]
    by_cases hn : n < 0
    · have f1 : ∀ k, caravanref5_Rem.j1 (k + 1) L n v (ct : Int) 0 (ct : Int) = caravanref5_Rem.j2 k L n v (ct : Int) 0 (ct : Int) (decide (n > -(ct : Int))) := fun k => by rw [caravanref5_Rem.j1, if_pos hn, hwm]
      by_cases hc : n > -(ct : Int)
      · have e3 : wrap64 ((ct : Int) + n) = (s : Int) := by
          clear hwm ih hj3
          rw [if_neg (by omega)] at hw
          rw [if_pos hn] at hs
          rw [wn (by omega) (by omega)]
          omega
        refine Ev.step f0 (Ev.step f1 (Ev.step (fun k => ?_) hj3))
        show caravanref5_Rem.j2 (k + 1) L n v (ct : Int) 0 (ct : Int) (decide (n > -(ct : Int))) = caravanref5_Rem.j3 k L v (s : Int) ((s + w : Nat) : Int)
        rw [caravanref5_Rem.j2, decide_eq_true hc, if_pos rfl, e3, ← e]
      · have e3 : (s : Int) = 0 := by
          clear hwm ih hj3
          rw [if_neg (by omega)] at hw
          rw [if_pos hn] at hs
          omega
        rw [e3] at hj3
        refine Ev.step f0 (Ev.step f1 (Ev.step (fun k => ?_) hj3))
        show caravanref5_Rem.j2 (k + 1) L n v (ct : Int) 0 (ct : Int) (decide (n > -(ct : Int))) = caravanref5_Rem.j3 k L v 0 ((s + w : Nat) : Int)
        rw [caravanref5_Rem.j2, decide_eq_false hc, if_neg Bool.false_ne_true, ← e]
    · have f1 : ∀ k, caravanref5_Rem.j1 (k + 1) L n v (ct : Int) 0 (ct : Int) = caravanref5_Rem.j2 k L n v (ct : Int) 0 (ct : Int) false := fun k => by rw [caravanref5_Rem.j1, if_neg hn]
      have e3 : (s : Int) = 0 := by
        clear hwm ih hj3
        rw [if_neg hn] at hs
        omega
      rw [e3] at hj3
      refine Ev.step f0 (Ev.step f1 (Ev.step (fun k => ?_) hj3))
      show caravanref5_Rem.j2 (k + 1) L n v (ct : Int) 0 (ct : Int) false = caravanref5_Rem.j3 k L v 0 ((s + w : Nat) : Int)
      rw [caravanref5_Rem.j2, if_neg Bool.false_ne_true, ← e]
theorem rrem_l0 {L : List ByteArray} {n : Int} {v : ByteArray} {k ct i : Nat} (hi : i < L.length) (hL : L.length ≤ 80) (hct : ct ≤ 80) :
    caravanref5_Rem.l0 (k + 1) L n v (ct : Int) (i : Int) = caravanref5_Rem.l0 k L n v ((ct + (if (L[i]?.getD ByteArray.empty).toList = v.toList then 1 else 0) : Nat) : Int) ((i + 1 : Nat) : Int) := by
  have d1 : (i : Int) < (L.length : Int) := by omega
  have d2 : (0 : Int) ≤ (i : Int) := by omega
  rw [caravanref5_Rem.l0, if_pos d1, if_pos d2, rdOf_nat, w1 (show ct < 1000000000 by omega), w1 (show i < 1000000000 by omega)]
  by_cases hh : (L[i]?.getD ByteArray.empty).toList = v.toList
  · rw [if_pos hh, if_pos hh]
  · rw [if_neg hh, if_neg hh]
    rfl
theorem rrem_count (L : List ByteArray) (n : Int) (v : ByteArray) (hL : L.length ≤ 80) (hn0 : -9223372036854775808 ≤ n) (hn1 : n ≤ 9223372036854775807) : ∀ (m i : Nat), i + m = L.length →
    Ev (fun k => caravanref5_Rem.l0 k L n v (c L v i : Int) (i : Int)) (out L n v, (want L n v : Int))
  | 0, i, h => by
    obtain rfl : i = L.length := h
    have h1 := rrem_l1 L n v hL L.length 0 (Nat.zero_add _)
    have h0 : went L n v 0 = 0 := by unfold went; rw [c_zero, Nat.zero_sub, Nat.min_zero]
    rw [c_zero, h0, List.take_zero] at h1
    exact rrem_mid (w := want L n v) (s := skip L n v) (Nat.le_trans (c_le L v L.length) hL) hn0 hn1 rfl rfl h1
  | m + 1, i, h => by
    have ih := rrem_count L n v hL hn0 hn1 m (i + 1) (by clear rrem_count; omega)
    clear rrem_count
    have hi : i < L.length := by omega
    rw [c_succ L v i] at ih
    exact Ev.step (fun k => rrem_l0 hi hL (Nat.le_trans (c_le L v i) (Nat.le_trans (Nat.le_of_lt hi) hL))) ih
theorem rrem_ev (L : List ByteArray) (n : Int) (v : ByteArray) (hL : L.length ≤ 80) (hn0 : -9223372036854775808 ≤ n) (hn1 : n ≤ 9223372036854775807) : Ev (fun k => caravanref5_Rem.f k L n v) (out L n v, (want L n v : Int)) :=
  rrem_count L n v hL hn0 hn1 L.length 0 (Nat.zero_add _)
end Go.Proofs.Ytheooomdhbleeaa.Pure

/-
  What the functions of the layer watch compute, as plain lists: who is suspected, what a tick makes of the counts, whether two rows of numbers are one. Conditions: lengths below what an append takes.
-/
import Derived.Test.YtbjpopooijhpdaaWXx1
import Derived.Test.YtbjpopooijhpdaaWXx2
namespace Go.Proofs.Ytbjpopooijhpdaa.WatchL
open Go.RowKit Go.Proofs.Ytbjpopooijhpdaa.WX Go.Proofs.YtbjpopooijhpdaaW.PrintWords Go.Proofs.YtbjpopooijhpdaaW.PrintLast Go.Proofs.YtbjpopooijhpdaaW.PrintMore

theorem wrap64_small (n : Int) (h0 : -9223372036854775808 ≤ n) (h1 : n < 9223372036854775808) : wrap64 n = n := by unfold wrap64; omega
theorem rd_at (l : List Int) (i : Nat) (h : i < l.length) : rd l (i : Int) = l[i] := by
  unfold rd
  rw [Int.toNat_natCast, List.getD_eq_getElem?_getD, List.getElem?_eq_getElem h]
  rfl

/-! ### two rows of numbers -/
theorem ints_loop (a b : List Int) (hl : a.length = b.length) (hm : a.length ≤ 4611686018427387904) (d : Nat) : ∀ i : Nat, i + d = a.length → caravanref1_Ints.l0 (d + 1) a b (i : Int) = some (decide (a.drop i = b.drop i)) := by
  induction d with
  | zero =>
    intro i h
    simp only [caravanref1_Ints.l0]
    rw [if_neg (by omega), List.drop_eq_nil_of_le (by omega), List.drop_eq_nil_of_le (by omega)]
    simp
  | succ d ih =>
    intro i h
    have h1 : i < a.length := by omega
    have h2 : i < b.length := by omega
    generalize hk : d + 1 = m at ih ⊢
    simp only [caravanref1_Ints.l0]
    rw [if_pos (by omega), if_pos (by omega), if_pos (by omega), rd_at a i h1, rd_at b i h2, List.drop_eq_getElem_cons h1, List.drop_eq_getElem_cons h2, wrap64_small _ (by omega) (by omega)]
    by_cases e : a[i] = b[i]
    · rw [if_pos e, show ((i : Int) + 1) = ((i + 1 : Nat) : Int) from by omega, ih (i + 1) (by omega)]
      simp only [List.cons.injEq, e, true_and]
    · rw [if_neg e]
      simp only [List.cons.injEq, e, false_and, decide_false]
theorem ints_f (a b : List Int) (hm : a.length ≤ 4611686018427387904) (k : Nat) (hk : a.length + 1 ≤ k) : caravanref1_Ints.f k a b = some (decide (a = b)) := by
  refine at_rounds (g := fun k => caravanref1_Ints.f k a b) (fun k => caravanref1_Ints.mono a b k) hk ?_
  show caravanref1_Ints.f (a.length + 1) a b = _
  unfold caravanref1_Ints.f
  by_cases hl : a.length = b.length
  · rw [if_pos (by omega)]
    have := ints_loop a b hl hm a.length 0 (by omega)
    simpa using this
  · rw [if_neg (by omega)]
    have : a ≠ b := fun e => hl (by rw [e])
    simp [this]

/-! ### who is suspected -/
def suspFrom : List Int → Nat → List Int
  | [], _ => []
  | x :: l, i => if x ≥ 6 then (i : Int) :: suspFrom l (i + 1) else suspFrom l (i + 1)
theorem susp_len (l : List Int) (i : Nat) : (suspFrom l i).length ≤ l.length := by
  induction l generalizing i with
  | nil => simp [suspFrom]
  | cons x l ih =>
    unfold suspFrom
    split
    · have := ih (i + 1); simp; omega
    · have := ih (i + 1); simp; omega
theorem susp_loop (h : List Int) (hm : h.length < 17592186044416) (d : Nat) : ∀ (i : Nat) (acc : List Int), i + d = h.length → acc.length ≤ i → watch_Suspects.l0 (d + 1) acc h (h.length : Int) (i : Int) = some (acc ++ suspFrom (h.drop i) i) := by
  induction d with
  | zero =>
    intro i acc hi ha
    simp only [watch_Suspects.l0]
    rw [if_neg (by omega), List.drop_eq_nil_of_le (by omega)]
    simp [suspFrom]
  | succ d ih =>
    intro i acc hi ha
    have h1 : i < h.length := by omega
    generalize hk : d + 1 = m at ih ⊢
    simp only [watch_Suspects.l0]
    rw [if_pos (by omega), if_pos (by omega), if_pos (by omega), rd_at h i h1, List.drop_eq_getElem_cons h1, wrap64_small _ (by omega) (by omega), show ((i : Int) + 1) = ((i + 1 : Nat) : Int) from by omega]
    unfold suspFrom
    by_cases e : h[i] ≥ 6
    · rw [if_pos e, if_pos e, if_pos (by omega), ih (i + 1) (acc ++ [(i : Int)]) (by omega) (by simp; omega)]
      simp
    · rw [if_neg e, if_neg e, ih (i + 1) acc (by omega) (by omega)]
theorem susp_f (h : List Int) (s : List (List Int)) (hm : h.length < 17592186044416) (k : Nat) (hk : h.length + 1 ≤ k) : watch_Suspects.f k h s = some (suspFrom h 0) := by
  refine at_rounds (g := fun k => watch_Suspects.f k h s) (fun k => watch_Suspects.mono h s k) hk ?_
  show watch_Suspects.l0 (h.length + 1) [] h (h.length : Int) ((0 : Nat) : Int) = _
  rw [susp_loop h hm h.length 0 [] (by omega) (by simp)]
  simp

/-! ### a tick -/
def tickFrom (me : Int) : List Int → Nat → List Int
  | [], _ => []
  | x :: l, i => (if (i : Int) = me then x else mn (wrap64 (x + 1)) 1000) :: tickFrom me l (i + 1)
theorem tick_len (me : Int) (l : List Int) (i : Nat) : (tickFrom me l i).length = l.length := by
  induction l generalizing i with
  | nil => rfl
  | cons x l ih => simp [tickFrom, ih]
theorem tick_loop (me : Int) (s : List (List Int)) (n : Nat) (hm : n ≤ 4611686018427387904) (d : Nat) : ∀ (i : Nat) (p q : List Int), i + d = n → p.length = i → q.length = d → watch_Tick.l0 (d + 1) me (n : Int) (i : Int) (p ++ q) s = some (p ++ tickFrom me q i, s) := by
  induction d with
  | zero =>
    intro i p q hi hp hq
    obtain rfl := List.eq_nil_of_length_eq_zero hq
    simp only [watch_Tick.l0]
    rw [if_neg (by omega)]
    rfl
  | succ d ih =>
    intro i p q hi hp hq
    cases q with
    | nil => simp at hq
    | cons x q =>
      have hq' : q.length = d := by simpa using hq
      have hlen : (p ++ x :: q).length = n := by simp; omega
      have hrd : rd (p ++ x :: q) (i : Int) = x := by
        rw [rd_at _ i (by omega), List.getElem_append_right (by omega)]
        simp [hp]
      generalize hk : d + 1 = m at ih ⊢
      simp only [watch_Tick.l0]
      rw [if_pos (by omega), wrap64_small ((i : Int) + 1) (by omega) (by omega), show ((i : Int) + 1) = ((i + 1 : Nat) : Int) from by omega]
      by_cases e : (i : Int) = me
      · rw [if_pos e]
        have h := ih (i + 1) (p ++ [x]) q (by omega) (by simp; omega) hq'
        simp only [List.append_assoc, List.singleton_append] at h
        rw [h]
        simp [tickFrom, e]
      · rw [if_neg e, if_pos (by omega), if_pos (by omega), hrd, Int.toNat_natCast]
        have hset : (p ++ x :: q).set i (mn (wrap64 (x + 1)) 1000) = p ++ mn (wrap64 (x + 1)) 1000 :: q := by
          rw [List.set_append_right _ _ (by omega), hp, Nat.sub_self, List.set_cons_zero]
        rw [hset]
        have h := ih (i + 1) (p ++ [mn (wrap64 (x + 1)) 1000]) q (by omega) (by simp; omega) hq'
        simp only [List.append_assoc, List.singleton_append] at h
        rw [h]
        simp [tickFrom, e]
/-- The lengths that own takes. -/
def Small (h : List Int) (s : List (List Int)) : Prop := h.length < 17592186044416 ∧ s.length < 5864062014805 ∧ ∀ x ∈ s, x.length < 17592186044416
theorem own_f {h : List Int} {s : List (List Int)} (hs : Small h s) : watch_own.f h s = some (h, s) := by
  unfold watch_own.f
  rw [if_pos hs.1, if_pos hs.2.1, if_pos (List.all_eq_true.2 (fun x hx => decide_eq_true (hs.2.2 x hx)))]
theorem tick_f (me : Int) {h : List Int} {s : List (List Int)} (hs : Small h s) (k : Nat) (hk : h.length + 1 ≤ k) : watch_Tick.f k h s me = some (tickFrom me h 0, s) := by
  refine at_rounds (g := fun k => watch_Tick.f k h s me) (fun k => watch_Tick.mono h s me k) hk ?_
  show watch_Tick.f (h.length + 1) h s me = _
  unfold watch_Tick.f
  rw [own_f hs]
  have := hs.1
  have := tick_loop me s h.length (by omega) h.length 0 [] h (by omega) rfl rfl
  simpa using this

theorem awake_20 : caravanlaw17_awake.f 40 = some true := by decide +kernel
theorem awake_f (k : Nat) (hk : 40 ≤ k) : caravanlaw17_awake.f k = some true :=
  at_rounds (g := fun k => caravanlaw17_awake.f k) (fun k => caravanlaw17_awake.mono k) hk awake_20
end Go.Proofs.Ytbjpopooijhpdaa.WatchL

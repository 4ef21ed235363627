/-
  Proved: whatever watch, numbers and rows are handed in, the law WatchAll of the watch layer answers true: what any watch is behind a tick, behind a word, whom it suspects, and who has failed, is the document's.
  Conditions: none of its own.
-/
import Derived.Test.YtbjpopooijhpdaaWXx10
import Derived.Test.YtbjpopooijhpdaaWatchL
namespace Go.Proofs.Ytbjpopooijhpdaa.PureAll
open Go.RowKit Go.Proofs.Ytbjpopooijhpdaa.WX Go.Proofs.YtbjpopooijhpdaaW.PrintWords Go.Proofs.YtbjpopooijhpdaaW.PrintLast Go.Proofs.YtbjpopooijhpdaaW.PrintMore
open Go.Proofs.Ytbjpopooijhpdaa.WatchL

theorem rdL_at (s : List (List Int)) (i : Nat) (h : i < s.length) : rd_L1 s (i : Int) = s[i] := by
  unfold rd_L1
  rw [Int.toNat_natCast, List.getD_eq_getElem?_getD, List.getElem?_eq_getElem h]
  rfl

/-! ### is it great -/
theorem great_loop (h : List Int) (s : List (List Int)) (d : Nat) : ∀ i : Nat, i + d = 12 → (∀ j (_ : j < i) (hj : j < s.length), (s[j]).length ≤ 30) →
    ∃ b, caravanlaw17_great.l0 (2 * d + 2) (i : Int) h s = some b ∧ (b = false → s.length ≤ 10 ∧ h.length ≤ 10 ∧ ∀ x ∈ s, x.length ≤ 30) := by
  have fin : ∀ (i : Nat) (m : Nat), (∀ j (_ : j < i) (hj : j < s.length), (s[j]).length ≤ 30) → (s.length ≤ i ∨ 12 ≤ i) → ∃ b, caravanlaw17_great.j1 (m + 1) (i : Int) false h s = some b ∧ (b = false → s.length ≤ 10 ∧ h.length ≤ 10 ∧ ∀ x ∈ s, x.length ≤ 30) := by
    intro i m hs hi
    simp only [caravanlaw17_great.j1]
    rw [if_neg (by decide)]
    by_cases c : (s.length : Int) > 10
    · rw [if_pos c]; exact ⟨true, rfl, fun e => by cases e⟩
    · rw [if_neg c]
      refine ⟨_, rfl, fun e => ⟨by omega, by have := of_decide_eq_false e; omega, fun x hx => ?_⟩⟩
      obtain ⟨j, hj, rfl⟩ := List.getElem_of_mem hx
      exact hs j (by omega) hj
  induction d with
  | zero =>
    intro i hi hs
    obtain ⟨q, hq⟩ : ∃ q : Nat, q = 0 := ⟨0, rfl⟩
    rw [show 2 * 0 + 2 = (q + 1) + 1 from by omega]
    generalize hq1 : q + 1 = q1
    simp only [caravanlaw17_great.l0]
    have hd : decide ((i : Int) < 12) = false := decide_eq_false (by omega)
    rw [hd]
    have := fin i q hs (.inr (by omega))
    rw [← hq1]
    by_cases c : (i : Int) < (s.length : Int)
    · rw [if_pos c]; exact this
    · rw [if_neg c]; exact this
  | succ d ih =>
    intro i hi hs
    rw [show 2 * (d + 1) + 2 = (2 * d + 2 + 1) + 1 from by omega]
    generalize hq : 2 * d + 2 = q at ih ⊢
    generalize hq1 : q + 1 = q1
    simp only [caravanlaw17_great.l0]
    by_cases c : (i : Int) < (s.length : Int)
    · rw [if_pos c, decide_eq_true (by omega : (i : Int) < 12), ← hq1]
      simp only [caravanlaw17_great.j1]
      rw [if_pos trivial, if_pos (by omega), if_pos c, rdL_at s i (by omega)]
      by_cases c2 : ((s[i]'(by omega)).length : Int) > 30
      · rw [if_pos c2]; exact ⟨true, rfl, fun e => by cases e⟩
      · rw [if_neg c2, wrap64_small _ (by omega) (by omega), show ((i : Int) + 1) = ((i + 1 : Nat) : Int) from by omega]
        refine ih (i + 1) (by omega) (fun j hj hjl => ?_)
        by_cases e : j = i
        · subst e; omega
        · exact hs j (by omega) hjl
    · rw [if_neg c, ← hq1]
      exact fin i q hs (.inl (by omega))
theorem great_f (h : List Int) (s : List (List Int)) (k : Nat) (hk : 26 ≤ k) : ∃ b, caravanlaw17_great.f k h s = some b ∧ (b = false → s.length ≤ 10 ∧ h.length ≤ 10 ∧ ∀ x ∈ s, x.length ≤ 30) := by
  obtain ⟨b, hb, h2⟩ := great_loop h s 12 0 (by omega) (fun j hj => absurd hj (Nat.not_lt_zero _))
  exact ⟨b, at_rounds (g := fun k => caravanlaw17_great.f k h s) (fun k => caravanlaw17_great.mono h s k) hk hb, h2⟩

/-! ### may it be a watch -/
theorem may_loop (h : List Int) (s : List (List Int)) (hm : h.length ≤ 4611686018427387904) (d : Nat) : ∀ i : Nat, i + d = h.length → (∀ j (_ : j < i) (hj : j < h.length), 0 ≤ h[j] ∧ h[j] ≤ 1000) →
    ∃ b, caravanref13_MayWatch.l0 (d + 1) (i : Int) h s = some b ∧ (b = true → h.length = s.length ∧ h.length ≤ 8 ∧ ∀ x ∈ h, 0 ≤ x ∧ x ≤ 1000) := by
  induction d with
  | zero =>
    intro i hi hs
    simp only [caravanref13_MayWatch.l0]
    rw [if_neg (by omega)]
    by_cases c : (h.length : Int) = (s.length : Int)
    · rw [if_pos c]
      refine ⟨_, rfl, fun e => ⟨by omega, by have := of_decide_eq_true e; omega, fun x hx => ?_⟩⟩
      obtain ⟨j, hj, rfl⟩ := List.getElem_of_mem hx
      exact hs j (by omega) hj
    · rw [if_neg c]; exact ⟨false, rfl, fun e => by cases e⟩
  | succ d ih =>
    intro i hi hs
    generalize hq : d + 1 = q at ih ⊢
    simp only [caravanref13_MayWatch.l0]
    rw [if_pos (by omega), if_pos (by omega), rd_at h i (by omega)]
    by_cases c : (h[i]'(by omega)) < 0
    · rw [if_pos c]; exact ⟨false, rfl, fun e => by cases e⟩
    · rw [if_neg c]
      by_cases c2 : (h[i]'(by omega)) > 1000
      · rw [if_pos c2]; exact ⟨false, rfl, fun e => by cases e⟩
      · rw [if_neg c2, wrap64_small _ (by omega) (by omega), show ((i : Int) + 1) = ((i + 1 : Nat) : Int) from by omega]
        refine ih (i + 1) (by omega) (fun j hj hjl => ?_)
        by_cases e : j = i
        · subst e; omega
        · exact hs j (by omega) hjl
theorem may_f (h : List Int) (s : List (List Int)) (hm : h.length ≤ 10) (k : Nat) (hk : 11 ≤ k) : ∃ b, caravanref13_MayWatch.f k h s = some b ∧ (b = true → h.length = s.length ∧ h.length ≤ 8 ∧ ∀ x ∈ h, 0 ≤ x ∧ x ≤ 1000) := by
  obtain ⟨b, hb, h2⟩ := may_loop h s (by omega) h.length 0 (by omega) (fun j hj => absurd hj (Nat.not_lt_zero _))
  exact ⟨b, at_rounds (g := fun k => caravanref13_MayWatch.f k h s) (fun k => caravanref13_MayWatch.mono h s k) (by omega) hb, h2⟩

/-! ### a watch is itself -/
theorem same_loop (h : List Int) (s : List (List Int)) (hm : s.length ≤ 1000) (hs : ∀ x ∈ s, x.length ≤ 1000) (m : Nat) (hmm : 1001 ≤ m) (d : Nat) : ∀ i : Nat, i + d = s.length → caravanref13_SameWatch.l0 (d + m + 1) (i : Int) h s h s = some true := by
  induction d with
  | zero =>
    intro i hi
    simp only [caravanref13_SameWatch.l0]
    rw [if_neg (by omega)]
  | succ d ih =>
    intro i hi
    rw [show d + 1 + m + 1 = (d + m + 1) + 1 from by omega]
    generalize hq : d + m + 1 = q at ih ⊢
    have hil : i < s.length := by omega
    have hle := hs s[i] (List.getElem_mem hil)
    simp only [caravanref13_SameWatch.l0]
    rw [if_pos (by omega), if_pos (by omega), if_pos (by omega), rdL_at s i hil]
    have hA : (s[i]).length ≤ 4611686018427387904 := Nat.le_trans hle (by decide)
    have hB : (s[i]).length + 1 ≤ q := by omega
    have hi1 := ints_f s[i] s[i] hA q hB
    clear hA
    have hd : decide (s[i] = s[i]) = true := decide_eq_true rfl
    rw [hi1, Option.bind_some, if_pos hd, wrap64_small _ (by omega) (by omega), show ((i : Int) + 1) = ((i + 1 : Nat) : Int) from by omega]
    exact ih (i + 1) (by omega)
theorem same_f (h : List Int) (s : List (List Int)) (hh : h.length ≤ 1000) (hm : s.length ≤ 1000) (hs : ∀ x ∈ s, x.length ≤ 1000) (k : Nat) (hk : 2010 ≤ k) : caravanref13_SameWatch.f k h s h s = some true := by
  obtain ⟨q, rfl⟩ : ∃ q, k = q + 1 := ⟨k - 1, by omega⟩
  obtain ⟨m, hq⟩ : ∃ m, q = s.length + m + 1 := ⟨q - s.length - 1, by omega⟩
  have hl := same_loop h s hm hs m (by omega) s.length 0 (by omega)
  rw [← hq] at hl
  unfold caravanref13_SameWatch.f
  rw [ints_f h h (by omega) (q + 1) (by omega)]
  simp only [Option.bind_some, decide_true, if_true, caravanref13_SameWatch.j0]
  rw [if_neg (by simp)]
  exact hl

/-! ### the document's tick, word, suspects -/
theorem copied_f {h : List Int} {s : List (List Int)} (hs : Small h s) : caravanref13_copied.f h s = some (h, s) := by
  unfold caravanref13_copied.f
  simp only [Option.bind_some, List.nil_append, List.length_nil, Nat.zero_add]
  rw [if_pos hs.1, if_pos hs.2.1]
theorem mn_comm (a b : Int) : mn a b = mn b a := by
  unfold mn
  split <;> split <;> omega
theorem rtick_loop (me : Int) (s : List (List Int)) (n : Nat) (hm : n ≤ 4611686018427387904) (d : Nat) : ∀ (i : Nat) (p q : List Int), i + d = n → p.length = i → q.length = d → caravanref13_TickWatch.l0 (d + 1) me (i : Int) (p ++ q) s = some (p ++ tickFrom me q i, s) := by
  induction d with
  | zero =>
    intro i p q hi hp hq
    obtain rfl := List.eq_nil_of_length_eq_zero hq
    simp only [caravanref13_TickWatch.l0]
    rw [if_neg (by simp; omega)]
    rfl
  | succ d ih =>
    intro i p q hi hp hq
    cases q with
    | nil => simp at hq
    | cons x q =>
      have hq' : q.length = d := by simpa using hq
      have hlen : (p ++ x :: q).length = n := by simp; omega
      have hrd : rd (p ++ x :: q) (i : Int) = x := by
        rw [rd_at _ i (by omega), List.getElem_append_right (by omega)]
        simp [hp]
      generalize hk : d + 1 = m at ih ⊢
      simp only [caravanref13_TickWatch.l0]
      rw [if_pos (by omega), wrap64_small ((i : Int) + 1) (by omega) (by omega), show ((i : Int) + 1) = ((i + 1 : Nat) : Int) from by omega]
      by_cases e : (i : Int) = me
      · rw [if_pos e]
        have h := ih (i + 1) (p ++ [x]) q (by omega) (by simp; omega) hq'
        simp only [List.append_assoc, List.singleton_append] at h
        rw [h]
        simp [tickFrom, e]
      · rw [if_neg e, if_pos (by omega), hrd, Int.toNat_natCast, mn_comm 1000]
        have hset : (p ++ x :: q).set i (mn (wrap64 (x + 1)) 1000) = p ++ mn (wrap64 (x + 1)) 1000 :: q := by
          rw [List.set_append_right _ _ (by omega), hp, Nat.sub_self, List.set_cons_zero]
        rw [hset]
        have h := ih (i + 1) (p ++ [mn (wrap64 (x + 1)) 1000]) q (by omega) (by simp; omega) hq'
        simp only [List.append_assoc, List.singleton_append] at h
        rw [h]
        simp [tickFrom, e]
theorem rtick_f (me : Int) {h : List Int} {s : List (List Int)} (hs : Small h s) (k : Nat) (hk : h.length + 1 ≤ k) : caravanref13_TickWatch.f k h s me = some (tickFrom me h 0, s) := by
  refine at_rounds (g := fun k => caravanref13_TickWatch.f k h s me) (fun k => caravanref13_TickWatch.mono h s me k) hk ?_
  show caravanref13_TickWatch.f (h.length + 1) h s me = _
  unfold caravanref13_TickWatch.f
  rw [copied_f hs]
  have := hs.1
  have := rtick_loop me s h.length (by omega) h.length 0 [] h (by omega) rfl rfl
  simpa using this
theorem rsusp_loop (h : List Int) (s : List (List Int)) (hm : h.length < 17592186044416) (d : Nat) : ∀ (i : Nat) (acc : List Int), i + d = h.length → acc.length ≤ i → caravanref13_Suspects.l0 (d + 1) acc (i : Int) h s = some (acc ++ suspFrom (h.drop i) i) := by
  induction d with
  | zero =>
    intro i acc hi ha
    simp only [caravanref13_Suspects.l0]
    rw [if_neg (by omega), List.drop_eq_nil_of_le (by omega)]
    simp [suspFrom]
  | succ d ih =>
    intro i acc hi ha
    have h1 : i < h.length := by omega
    generalize hk : d + 1 = m at ih ⊢
    simp only [caravanref13_Suspects.l0]
    rw [if_pos (by omega), if_pos (by omega), rd_at h i h1, List.drop_eq_getElem_cons h1, wrap64_small _ (by omega) (by omega), show ((i : Int) + 1) = ((i + 1 : Nat) : Int) from by omega]
    unfold suspFrom
    by_cases e : h[i] ≥ 6
    · rw [if_pos e, if_pos e, if_pos (by omega), ih (i + 1) (acc ++ [(i : Int)]) (by omega) (by simp; omega)]
      simp
    · rw [if_neg e, if_neg e, ih (i + 1) acc (by omega) (by omega)]
theorem rsusp_f (h : List Int) (s : List (List Int)) (hm : h.length < 17592186044416) (k : Nat) (hk : h.length + 1 ≤ k) : caravanref13_Suspects.f k h s = some (suspFrom h 0) := by
  refine at_rounds (g := fun k => caravanref13_Suspects.f k h s) (fun k => caravanref13_Suspects.mono h s k) hk ?_
  show caravanref13_Suspects.l0 (h.length + 1) [] ((0 : Nat) : Int) h s = _
  rw [rsusp_loop h s hm h.length 0 [] (by omega) (by simp)]
  simp

/-! ### is a number in a row -/
theorem index_loop (l : List Int) (a : Int) (hm : l.length ≤ 4611686018427387904) (d : Nat) : ∀ i : Nat, i + d = l.length → ∃ r, slices_Index_int_int.l0 (d + 1) l a (l.length : Int) (i : Int) = some r ∧ decide (r ≥ 0) = decide (a ∈ l.drop i) := by
  induction d with
  | zero =>
    intro i hi
    simp only [slices_Index_int_int.l0]
    rw [if_neg (by omega), List.drop_eq_nil_of_le (by omega)]
    exact ⟨_, rfl, by simp⟩
  | succ d ih =>
    intro i hi
    have h1 : i < l.length := by omega
    generalize hk : d + 1 = m at ih ⊢
    simp only [slices_Index_int_int.l0]
    rw [if_pos (by omega), if_pos (by omega), if_pos (by omega), rd_at l i h1, List.drop_eq_getElem_cons h1]
    by_cases e : a = l[i]
    · rw [if_pos e]
      exact ⟨_, rfl, by rw [decide_eq_true (by omega : (i : Int) ≥ 0), decide_eq_true (by rw [e]; exact List.mem_cons_self)]⟩
    · rw [if_neg e, wrap64_small _ (by omega) (by omega), show ((i : Int) + 1) = ((i + 1 : Nat) : Int) from by omega]
      obtain ⟨r, hr, h2⟩ := ih (i + 1) (by omega)
      refine ⟨r, hr, ?_⟩
      rw [h2]
      simp only [List.mem_cons, e, false_or]
theorem contains_f (l : List Int) (a : Int) (hm : l.length ≤ 4611686018427387904) (k : Nat) (hk : l.length + 1 ≤ k) : slices_Contains_int_int.f k l a = some (decide (a ∈ l)) := by
  refine at_rounds (g := fun k => slices_Contains_int_int.f k l a) (fun k => slices_Contains_int_int.mono l a k) hk ?_
  show slices_Contains_int_int.f (l.length + 1) l a = _
  obtain ⟨r, hr, h2⟩ := index_loop l a hm l.length 0 (by omega)
  unfold slices_Contains_int_int.f slices_Index_int_int.f
  rw [show ((0 : Nat) : Int) = 0 from rfl] at hr
  rw [hr]
  simp only [Option.bind_some, h2, List.drop_zero]
theorem in_loop (l : List Int) (a : Int) (hm : l.length ≤ 4611686018427387904) (d : Nat) : ∀ i : Nat, i + d = l.length → caravanref13_in.l0 (d + 1) l a (i : Int) = some (decide (a ∈ l.drop i)) := by
  induction d with
  | zero =>
    intro i hi
    simp only [caravanref13_in.l0]
    rw [if_neg (by omega), List.drop_eq_nil_of_le (by omega)]
    simp
  | succ d ih =>
    intro i hi
    have h1 : i < l.length := by omega
    generalize hk : d + 1 = m at ih ⊢
    simp only [caravanref13_in.l0]
    rw [if_pos (by omega), if_pos (by omega), rd_at l i h1, List.drop_eq_getElem_cons h1]
    by_cases e : l[i] = a
    · rw [if_pos e, decide_eq_true (by rw [e]; exact List.mem_cons_self)]
    · rw [if_neg e, wrap64_small _ (by omega) (by omega), show ((i : Int) + 1) = ((i + 1 : Nat) : Int) from by omega, ih (i + 1) (by omega)]
      have e2 : ¬ a = l[i] := fun h => e h.symm
      simp only [List.mem_cons, e2, false_or]
theorem in_f (l : List Int) (a : Int) (hm : l.length ≤ 4611686018427387904) (k : Nat) (hk : l.length + 1 ≤ k) : caravanref13_in.f k l a = some (decide (a ∈ l)) := by
  refine at_rounds (g := fun k => caravanref13_in.f k l a) (fun k => caravanref13_in.mono l a k) hk ?_
  have := in_loop l a hm l.length 0 (by omega)
  rw [List.drop_zero] at this
  exact this

/-! ### who has failed -/
def says (s : List (List Int)) (id who m : Int) : Bool := decide (m ≠ who) && (decide (m = id) || (decide (0 ≤ m) && decide (m < (s.length : Int)) && decide (who ∈ rd_L1 s m)))
def countF (s : List (List Int)) (id who : Int) : List Int → Nat
  | [] => 0
  | m :: l => (if says s id who m = true then 1 else 0) + countF s id who l
theorem countF_le (s : List (List Int)) (id who : Int) (l : List Int) : countF s id who l ≤ l.length := by
  induction l with
  | nil => simp [countF]
  | cons m l ih => unfold countF; split <;> simp <;> omega
theorem rdL_len (s : List (List Int)) (hs : ∀ x ∈ s, x.length ≤ 1000) (m : Int) : (rd_L1 s m).length ≤ 1000 := by
  unfold rd_L1
  rw [List.getD_eq_getElem?_getD]
  cases e : s[m.toNat]? with
  | none => simp
  | some x => exact hs x (List.mem_of_getElem? e)
theorem failed_loop (h : List Int) (s : List (List Int)) (hs : ∀ x ∈ s, x.length ≤ 1000) (id who : Int) (ms : List Int) (hm : ms.length ≤ 1000) (r : Nat) (hr : 1001 ≤ r) (d : Nat) : ∀ (i n : Nat), i + d = ms.length → n ≤ i →
    watch_Failed.l0 (d + r + 1) id ms who (n : Int) ms (ms.length : Int) (i : Int) h s = some (decide (2 * ((n + countF s id who (ms.drop i) : Nat) : Int) > (ms.length : Int))) := by
  induction d with
  | zero =>
    intro i n hi hn
    simp only [watch_Failed.l0]
    rw [if_neg (by omega), List.drop_eq_nil_of_le (by omega), wrap64_small _ (by omega) (by omega)]
    congr 1
  | succ d ih =>
    intro i n hi hn
    have h1 : i < ms.length := by omega
    rw [show d + 1 + r + 1 = (d + r + 1) + 1 from by omega]
    generalize hq : d + r + 1 = q at ih ⊢
    simp only [watch_Failed.l0]
    rw [if_pos (by omega : (i : Int) < (ms.length : Int)), if_pos (by omega : (0 : Int) ≤ (i : Int)), if_pos (by omega : (i : Int) < (ms.length : Int)), rd_at ms i h1, List.drop_eq_getElem_cons h1, wrap64_small ((i : Int) + 1) (by omega) (by omega), wrap64_small ((n : Int) + 1) (by omega) (by omega),
      show ((i : Int) + 1) = ((i + 1 : Nat) : Int) from by omega, show ((n : Int) + 1) = ((n + 1 : Nat) : Int) from by omega]
    obtain ⟨m, hmm⟩ : ∃ m, m = ms[i] := ⟨_, rfl⟩
    rw [← hmm]
    have no := ih (i + 1) n (by omega) (by omega)
    have yes := ih (i + 1) (n + 1) (by omega) (by omega)
    have cno : says s id who m = false → countF s id who (m :: ms.drop (i + 1)) = countF s id who (ms.drop (i + 1)) := fun e => by simp [countF, e]
    have cyes : says s id who m = true → n + countF s id who (m :: ms.drop (i + 1)) = n + 1 + countF s id who (ms.drop (i + 1)) := fun e => by simp [countF, e]; omega
    by_cases c1 : m = who
    · rw [if_pos c1, cno (by simp [says, c1])]
      exact no
    · rw [if_neg c1]
      by_cases c2 : m = id
      · rw [if_pos c2, cyes (by simp only [says, decide_eq_true c2, Bool.true_or, Bool.and_true]; simpa using c1)]
        exact yes
      · rw [if_neg c2]
        by_cases c3 : m < 0
        · rw [if_pos c3, cno (by simp [says, c2, decide_eq_false (by omega : ¬ 0 ≤ m)])]
          exact no
        · rw [if_neg c3]
          by_cases c4 : m ≥ (s.length : Int)
          · rw [if_pos c4, cno (by simp [says, c2, decide_eq_false (by omega : ¬ m < (s.length : Int))])]
            exact no
          · have hle := rdL_len s hs m
            rw [if_neg c4, if_pos (by omega), if_pos (by omega), contains_f _ _ (by omega) q (by omega)]
            simp only [Option.bind_some]
            by_cases c5 : who ∈ rd_L1 s m
            · rw [if_pos (decide_eq_true c5), cyes (by simp [says, c1, c5]; omega)]
              exact yes
            · rw [if_neg (by simp [c5]), cno (by simp [says, c2, c5])]
              exact no
theorem rfailed_loop (h : List Int) (s : List (List Int)) (hs : ∀ x ∈ s, x.length ≤ 1000) (id who : Int) (ms : List Int) (hm : ms.length ≤ 1000) (r : Nat) (hr : 1001 ≤ r) (d : Nat) : ∀ (i n : Nat), i + d = ms.length → n ≤ i →
    caravanref13_Failed.l0 (d + r + 1) id ms who (n : Int) (i : Int) h s = some (decide (2 * ((n + countF s id who (ms.drop i) : Nat) : Int) > (ms.length : Int))) := by
  induction d with
  | zero =>
    intro i n hi hn
    simp only [caravanref13_Failed.l0]
    rw [if_neg (by omega), List.drop_eq_nil_of_le (by omega), wrap64_small _ (by omega) (by omega)]
    congr 1
    apply decide_eq_decide.2
    simp only [countF]
    omega
  | succ d ih =>
    intro i n hi hn
    have h1 : i < ms.length := by omega
    rw [show d + 1 + r + 1 = (d + r + 1) + 1 from by omega]
    generalize hq : d + r + 1 = q at ih ⊢
    simp only [caravanref13_Failed.l0]
    rw [if_pos (by omega : (i : Int) < (ms.length : Int)), if_pos (by omega : (0 : Int) ≤ (i : Int)), rd_at ms i h1, List.drop_eq_getElem_cons h1, wrap64_small ((i : Int) + 1) (by omega) (by omega), wrap64_small ((n : Int) + 1) (by omega) (by omega),
      show ((i : Int) + 1) = ((i + 1 : Nat) : Int) from by omega, show ((n : Int) + 1) = ((n + 1 : Nat) : Int) from by omega]
    obtain ⟨m, hmm⟩ : ∃ m, m = ms[i] := ⟨_, rfl⟩
    rw [← hmm]
    have no := ih (i + 1) n (by omega) (by omega)
    have yes := ih (i + 1) (n + 1) (by omega) (by omega)
    have cno : says s id who m = false → countF s id who (m :: ms.drop (i + 1)) = countF s id who (ms.drop (i + 1)) := fun e => by simp [countF, e]
    have cyes : says s id who m = true → n + countF s id who (m :: ms.drop (i + 1)) = n + 1 + countF s id who (ms.drop (i + 1)) := fun e => by simp [countF, e]; omega
    by_cases c1 : m = who
    · rw [if_pos c1, cno (by simp [says, c1])]
      exact no
    · rw [if_neg c1]
      by_cases c2 : m = id
      · rw [if_pos c2, cyes (by simp only [says, decide_eq_true c2, Bool.true_or, Bool.and_true]; simpa using c1)]
        exact yes
      · rw [if_neg c2]
        by_cases c3 : m < 0
        · rw [if_neg (by omega), cno (by simp [says, c2, decide_eq_false (by omega : ¬ 0 ≤ m)])]
          exact no
        · rw [if_pos (by omega : m ≥ 0)]
          by_cases c4 : m ≥ (s.length : Int)
          · rw [if_neg (by omega), cno (by simp [says, c2, decide_eq_false (by omega : ¬ m < (s.length : Int))])]
            exact no
          · have hle := rdL_len s hs m
            rw [if_pos (by omega), if_pos (by omega), in_f _ _ (by omega) q (by omega)]
            simp only [Option.bind_some]
            by_cases c5 : who ∈ rd_L1 s m
            · rw [if_pos (decide_eq_true c5), cyes (by simp [says, c1, c5]; omega)]
              exact yes
            · rw [if_neg (by simp [c5]), cno (by simp [says, c2, c5])]
              exact no
theorem failed_f (h : List Int) (s : List (List Int)) (hh : h.length ≤ 1000) (hs : ∀ x ∈ s, x.length ≤ 1000) (id who : Int) (ms : List Int) (hm : ms.length ≤ 1000) (k : Nat) (hk : 2010 ≤ k) :
    ∃ b, watch_Failed.f k h s id ms who = some b ∧ caravanref13_Failed.f k h s id ms who = some b := by
  obtain ⟨q, rfl⟩ : ∃ q, k = q + 1 := ⟨k - 1, by omega⟩
  obtain ⟨m, hq⟩ : ∃ m, q = ms.length + m + 1 := ⟨q - ms.length - 1, by omega⟩
  have hj : ∀ x : Bool, ∃ b, watch_Failed.j0 (q + 1) id ms who x h s = some b ∧ caravanref13_Failed.j0 (q + 1) id ms who x h s = some b := by
    intro x
    simp only [watch_Failed.j0, caravanref13_Failed.j0]
    cases x with
    | true => exact ⟨false, rfl, rfl⟩
    | false =>
      have h1 := failed_loop h s hs id who ms hm m (by omega) ms.length 0 0 (by omega) (by omega)
      have h2 := rfailed_loop h s hs id who ms hm m (by omega) ms.length 0 0 (by omega) (by omega)
      rw [← hq] at h1 h2
      exact ⟨_, h1, h2⟩
  unfold watch_Failed.f caravanref13_Failed.f
  by_cases c : who = id
  · rw [if_pos c, if_pos c]; exact hj true
  · have hl := susp_len h 0
    rw [if_neg c, if_neg c, susp_f h s (by omega) (q + 1) (by omega), rsusp_f h s (by omega) (q + 1) (by omega)]
    simp only [Option.bind_some]
    rw [contains_f _ _ (by omega) (q + 1) (by omega), in_f _ _ (by omega) (q + 1) (by omega)]
    exact hj _

theorem all (h : List Int) (s : List (List Int)) (id from_ : Int) (sy ms : List Int) (who count : Int) (q : Nat) (hq : 2500 ≤ q) : caravanlaw17_WatchAll.f (q + 1) h s id from_ sy ms who count = some true := by
  have haw : ∀ x : Bool, x = true → caravanlaw17_WatchAll.j0 (q + 1) id from_ sy ms who count x h s = some true := by
    intro x hx
    simp only [caravanlaw17_WatchAll.j0]
    rw [if_pos hx, awake_f q (by omega)]
    rfl
  unfold caravanlaw17_WatchAll.f
  obtain ⟨b, hb, hb2⟩ := great_f h s (q + 1) (by omega)
  rw [hb]
  simp only [Option.bind_some]
  cases b with
  | true => rw [if_pos rfl]; exact haw _ rfl
  | false =>
    obtain ⟨hs1, hh1, hs2⟩ := hb2 rfl
    rw [if_neg (by decide)]
    by_cases c1 : (sy.length : Int) > 20
    · rw [if_pos c1]; exact haw _ rfl
    rw [if_neg c1]
    by_cases c2 : (ms.length : Int) > 20
    · rw [if_pos c2]; exact haw _ rfl
    rw [if_neg c2]
    obtain ⟨m, hm, hm2⟩ := may_f h s hh1 (q + 1) (by omega)
    rw [hm]
    simp only [Option.bind_some]
    cases m with
    | false => exact haw _ rfl
    | true =>
      obtain ⟨e1, e2, e3⟩ := hm2 rfl
      have hsm : Small h s := ⟨by omega, by omega, fun x hx => by have := hs2 x hx; omega⟩
      show caravanlaw17_WatchAll.j0 (q + 1) id from_ sy ms who count false h s = some true
      simp only [caravanlaw17_WatchAll.j0]
      rw [if_neg (by decide)]
      have hnew : ∃ (a : List Int) (b : List (List Int)), watch_New.f count = some (a, b) ∧ caravanref13_NewWatch.f count = some (a, b) ∧ a.length ≤ 1000 ∧ b.length ≤ 1000 ∧ ∀ x ∈ b, x.length ≤ 1000 := by
        have h0 : 0 ≤ mx 0 (mn count 8) := by unfold mx mn; split <;> split <;> omega
        have h8 : mx 0 (mn count 8) ≤ 8 := by unfold mx mn; split <;> split <;> omega
        refine ⟨List.replicate (mx 0 (mn count 8)).toNat 0, List.replicate (mx 0 (mn count 8)).toNat [], ?_, ?_, by rw [List.length_replicate]; omega, by rw [List.length_replicate]; omega, fun x hx => by rw [List.eq_of_mem_replicate hx]; simp⟩
        · unfold watch_New.f
          rw [if_pos h0, if_pos (by omega), if_pos (by omega)]
        · unfold caravanref13_NewWatch.f
          rw [if_pos h0, if_pos (by omega), if_pos (by omega)]
      obtain ⟨na, nb, n1, n2, n3, n4, n5⟩ := hnew
      rw [n1, n2]
      simp only [Option.bind_some]
      rw [same_f na nb n3 n4 n5 q (by omega)]
      simp only [Option.bind_some, if_true]
      rw [tick_f id hsm q (by omega), rtick_f id hsm q (by omega)]
      simp only [Option.bind_some]
      rw [same_f _ s (by rw [tick_len]; omega) (by omega) (fun x hx => by have := hs2 x hx; omega) q (by omega)]
      simp only [Option.bind_some, if_true]
      have hheard : ∃ (a : List Int) (b : List (List Int)), watch_Heard.f h s from_ sy = some (a, b) ∧ caravanref13_Heard.f h s from_ sy = some (a, b) ∧ a.length ≤ 1000 ∧ b.length ≤ 1000 ∧ ∀ x ∈ b, x.length ≤ 1000 := by
        unfold watch_Heard.f caravanref13_Heard.f
        rw [own_f hsm, copied_f hsm]
        simp only [Option.bind_some]
        by_cases d1 : from_ < 0
        · rw [if_pos d1, if_neg (by omega)]
          exact ⟨h, s, rfl, rfl, by omega, by omega, fun x hx => by have := hs2 x hx; omega⟩
        · rw [if_neg d1, if_pos (by omega : from_ ≥ 0)]
          by_cases d2 : (h.length : Int) ≤ from_
          · rw [if_pos d2, if_neg (by omega)]
            exact ⟨h, s, rfl, rfl, by omega, by omega, fun x hx => by have := hs2 x hx; omega⟩
          · rw [if_neg d2, if_pos (by omega), if_pos (by omega), if_pos (by omega), if_pos (by omega), if_pos (by simp; omega), if_pos (by omega)]
            refine ⟨_, _, rfl, rfl, by rw [List.length_set]; omega, by rw [List.length_set]; omega, fun x hx => ?_⟩
            rcases List.mem_or_eq_of_mem_set hx with hx | rfl
            · have := hs2 x hx; omega
            · omega
      obtain ⟨ha, hb', g1, g2, g3, g4, g5⟩ := hheard
      rw [g1, g2]
      simp only [Option.bind_some]
      rw [same_f ha hb' g3 g4 g5 q (by omega)]
      simp only [Option.bind_some, if_true]
      have hl := susp_len h 0
      rw [susp_f h s (by omega) q (by omega), rsusp_f h s (by omega) q (by omega)]
      simp only [Option.bind_some]
      rw [ints_f _ _ (by omega) q (by omega)]
      simp only [Option.bind_some, decide_true, if_true]
      obtain ⟨fb, f1, f2⟩ := failed_f h s (by omega) (fun x hx => by have := hs2 x hx; omega) id who ms (by omega) q (by omega)
      rw [f1, f2]
      simp only [Option.bind_some]
      rw [if_pos (by simp), awake_f q (by omega)]
      rfl
/-- The call, whatever it is handed. -/
theorem all_walk (W : World) (A0 : Option Addr) (c0 : Nat) (l0 : List Int) (A1 : Option Addr) (c1 : Nat) (l1 : List (List Int)) (g0 : (Kd.int .i64).C W A0 l0.length l0) (e0 : l0.length ≤ c0) (_m0 : c0 ≤ 9223372036854775807) (g1 : (Kd.slice 3 (Kd.int .i64)).C W A1 l1.length l1) (e1 : l1.length ≤ c1) (_m1 : c1 ≤ 9223372036854775807)
    (a1 : Int) (_w1 : (Lit.int .i64 a1).wf = true) (a2 : Int) (_w2 : (Lit.int .i64 a2).wf = true) (A3 : Option Addr) (c3 : Nat) (l3 : List Int) (g3 : (Kd.int .i64).C W A3 l3.length l3) (e3 : l3.length ≤ c3) (_m3 : c3 ≤ 9223372036854775807) (_wf3 : ∀ n ∈ l3, (Lit.int .i64 n).wf = true)
    (A4 : Option Addr) (c4 : Nat) (l4 : List Int) (g4 : (Kd.int .i64).C W A4 l4.length l4) (e4 : l4.length ≤ c4) (_m4 : c4 ≤ 9223372036854775807) (_wf4 : ∀ n ∈ l4, (Lit.int .i64 n).wf = true) (a5 : Int) (_w5 : (Lit.int .i64 a5).wf = true) (a6 : Int) (_w6 : (Lit.int .i64 a6).wf = true) :
    Calls Try.prog 4 #[.agg #[.slice A0 l0.length c0, .slice A1 l1.length c1], .int .i64 a1, .int .i64 a2, .slice A3 l3.length c3, .slice A4 l4.length c4, .int .i64 a5, .int .i64 a6] W fun e w' => e = .returned (.bool true) ∧ Below W.heap.size W w' :=
  caravanlaw17_WatchAll.calls (2999 + 1) A0 c0 l0 A1 c1 l1 a1 a2 A3 c3 l3 A4 c4 l4 a5 a6 true W g0 e0 g1 e1 g3 e3 g4 e4 (all l0 l1 a1 a2 l3 l4 a5 a6 2999 (by omega))
end Go.Proofs.Ytbjpopooijhpdaa.PureAll

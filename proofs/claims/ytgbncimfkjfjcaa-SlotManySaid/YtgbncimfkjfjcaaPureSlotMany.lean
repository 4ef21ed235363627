/-
  The plain law behind the law SlotMany: what its Lean function computes is true. Conditions: none of its own.
-/
import Derived.Test.YtgbncimfkjfjcaaOneL
import Derived.Test.YtgbncimfkjfjcaaSXx4
namespace Go.Proofs.Ytgbncimfkjfjcaa.Pure
open Go.RowKit Go.Proofs.Ytgbncimfkjfjcaa.SX Go.Proofs.YtgbncimfkjfjcaaW.PrintWords Go.Proofs.YtgbncimfkjfjcaaW.PrintLast Go.Proofs.YtgbncimfkjfjcaaW.PrintMore
theorem many_if {α : Type} {c : Prop} [Decidable c] {g h : Nat → Option α} {r : α} (hc : c) (e : Ev g r) : Ev (fun k => if c then g k else h k) r := Ev.congr (fun _ => if_pos hc) e
theorem many_ifn {α : Type} {c : Prop} [Decidable c] {g h : Nat → Option α} {r : α} (hc : ¬ c) (e : Ev h r) : Ev (fun k => if c then g k else h k) r := Ev.congr (fun _ => if_neg hc) e
theorem tmod_nat {a : Int} {n : Nat} (ha : 0 ≤ a) (hn : 0 < n) : ∃ i : Nat, Int.tmod a (n : Int) = (i : Int) ∧ i < n := by
  have h1 := Int.emod_nonneg a (show (n : Int) ≠ 0 by omega)
  have h2 := Int.emod_lt_of_pos a (show (0 : Int) < (n : Int) by omega)
  exact ⟨(Int.tmod a (n : Int)).toNat, by rw [Int.tmod_eq_emod_of_nonneg ha]; omega, by rw [Int.tmod_eq_emod_of_nonneg ha]; omega⟩
/-- A row of keys of one slot. -/
theorem one_same {s : ByteArray} {n : Int} (hs : s.size < 10000000) (hn : Ev (fun k => slot_Of.f k s) n) (m : Nat) (hm : m < 1000) : Ev (fun k => slot_One.f k (List.replicate (m + 1) s)) (n, true) := by
  have hr : List.replicate (m + 1) s = s :: List.replicate m s := List.replicate_succ
  have hx : ∀ x ∈ s :: List.replicate m s, x = s := fun x hx => by
    rcases List.mem_cons.mp hx with h | h
    · exact h
    · exact (List.mem_replicate.mp h).2
  obtain ⟨b, hb, hi⟩ := one_ev s (List.replicate m s) n (by rw [List.length_replicate]; omega) hn (fun x h => by rw [hx x h]; exact hs)
  have hf : b = false := by
    cases b with
    | false => rfl
    | true =>
      obtain ⟨x, h, q, h3, h4⟩ := hi.mp rfl
      rw [hx x h] at h3
      exact absurd (ev_one h3 hn) h4
  subst hf
  rw [hr]
  exact hb
/-- One of them another one. -/
theorem one_set {s t : ByteArray} {n m : Int} (hs : s.size < 10000000) (ht : t.size < 10000000) (hn : Ev (fun k => slot_Of.f k s) n) (hm : Ev (fun k => slot_Of.f k t) m) (c i : Nat) (hc : c < 1000) (hi : i < c + 2) :
    Ev (fun k => slot_One.f k ((List.replicate (c + 2) s).set i t)) (if n = m then (m, true) else (0, false)) := by
  obtain ⟨f, r, hfr⟩ : ∃ f r, (List.replicate (c + 2) s).set i t = f :: r := by
    cases i with
    | zero => exact ⟨t, List.replicate (c + 1) s, rfl⟩
    | succ i => exact ⟨s, (List.replicate (c + 1) s).set i t, rfl⟩
  have hlen : r.length = c + 1 := by
    have := congrArg List.length hfr
    rw [List.length_set, List.length_replicate, List.length_cons] at this
    omega
  have hmem : ∀ x ∈ f :: r, x = s ∨ x = t := fun x hx => by
    rw [← hfr] at hx
    rcases List.mem_or_eq_of_mem_set hx with h | h
    · exact .inl (List.mem_replicate.mp h).2
    · exact .inr h
  have hst : s ∈ f :: r ∧ t ∈ f :: r := by
    rw [← hfr]
    refine ⟨?_, List.mem_set (by rw [List.length_replicate]; exact hi) t⟩
    rw [List.mem_iff_getElem]
    by_cases h0 : i = 0
    · exact ⟨1, by rw [List.length_set, List.length_replicate]; omega, by rw [List.getElem_set_ne (by omega), List.getElem_replicate]⟩
    · exact ⟨0, by rw [List.length_set, List.length_replicate]; omega, by rw [List.getElem_set_ne h0, List.getElem_replicate]⟩
  rw [hfr]
  have hsz : ∀ x ∈ f :: r, x.size < 10000000 := fun x hx => by rcases hmem x hx with rfl | rfl <;> assumption
  have hq : ∃ q, Ev (fun k => slot_Of.f k f) q ∧ (q = n ∨ q = m) := by
    rcases hmem f List.mem_cons_self with h | h
    · exact ⟨n, by rw [h]; exact hn, .inl rfl⟩
    · exact ⟨m, by rw [h]; exact hm, .inr rfl⟩
  obtain ⟨q, hqe, hqc⟩ := hq
  obtain ⟨b, hb, hi2⟩ := one_ev f r q (by omega) hqe hsz
  by_cases he : n = m
  · have hqm : q = m := by rcases hqc with h | h <;> omega
    have hf : b = false := by
      cases b with
      | false => rfl
      | true =>
        obtain ⟨x, h, p, h3, h4⟩ := hi2.mp rfl
        rcases hmem x h with h5 | h5
        · rw [h5] at h3
          exact absurd (ev_one h3 hn) (by omega)
        · rw [h5] at h3
          exact absurd (ev_one h3 hm) (by omega)
    subst hf
    rw [if_pos he, ← hqm]
    exact hb
  · have hf : b = true := hi2.mpr (by
      by_cases h : q = n
      · exact ⟨t, hst.2, m, hm, by omega⟩
      · exact ⟨s, hst.1, n, hn, by omega⟩)
    subst hf
    rw [if_neg he]
    exact hb
theorem many_j2 (s t : ByteArray) (a3 : Int) (c : Nat) (hs : s.size < 1000) (ht : t.size < 1000) (h3 : 0 ≤ a3 ∧ a3 ≤ 255) (hc : c < 6) : Ev (fun k => caravanlaw1_SlotMany.j2 k s t a3 (List.replicate (c + 1) s) false) true := by
  obtain ⟨n, n1, n2, n3, n4⟩ := slot_one s (by omega)
  obtain ⟨m, m1, m2, m3, m4⟩ := slot_one t (by omega)
  obtain ⟨i, hi, hil⟩ := tmod_nat (n := c + 1) h3.1 (by omega)
  have hw : wrap64 a3 = a3 := wn (by omega) (by omega)
  refine Ev.step (fun k => by rw [caravanlaw1_SlotMany.j2, if_neg Bool.false_ne_true, List.length_replicate, hw, hi, Int.toNat_natCast]) ?_
  clear hw hi
  refine many_ifn (by omega) (many_if (by omega) (many_if (by omega) ?_))
  cases c with
  | zero =>
    obtain rfl : i = 0 := by omega
    have h : (List.replicate (0 + 1) s).set 0 t = List.replicate (0 + 1) t := rfl
    rw [h]
    exact Ev.bind (one_same (by omega) m1 0 (by decide)) (many_if (by decide) (many_if rfl (Ev.bind m1 (many_if rfl (Ev.bind awake_ev (Ev.now true))))))
  | succ c =>
    refine Ev.bind (one_set (by omega) (by omega) n1 m1 c i (by omega) (by omega)) (many_ifn (by omega) (Ev.bind one_nil (Ev.bind m2 (Ev.bind n2 ?_))))
    by_cases he : n = m
    · rw [if_pos he]
      have hb : (m == n) = true := by simp [he]
      exact many_if (by show (true == (m == n)) = true; rw [hb]; rfl) (many_if rfl (many_ifn Bool.false_ne_true (Ev.bind awake_ev (Ev.now true))))
    · rw [if_neg he]
      have hb : (m == n) = false := by rw [beq_eq_false_iff_ne]; omega
      exact many_if (by show (false == (m == n)) = true; rw [hb]; rfl) (many_ifn Bool.false_ne_true (many_if rfl (many_ifn Bool.false_ne_true (Ev.bind awake_ev (Ev.now true)))))
theorem many_l0 (s t : ByteArray) (a1 a3 : Int) (c : Nat) (hs : s.size < 1000) (ht : t.size < 1000) (h1 : wrap64 (1 + Int.tmod (wrap64 a1) 6) = ((c + 1 : Nat) : Int)) (h3 : 0 ≤ a3 ∧ a3 ≤ 255) (hc : c < 6) :
    ∀ d i, i + d = c + 1 → Ev (fun k => caravanlaw1_SlotMany.l0 k s a1 t a3 (List.replicate i s) (i : Int)) true
  | 0, i, h => by
    obtain rfl : i = c + 1 := h
    obtain ⟨n, n1, _, _, _⟩ := slot_one s (by omega)
    refine Ev.step (fun k => by rw [caravanlaw1_SlotMany.l0, h1, if_neg (Int.lt_irrefl _)]) ?_
    refine Ev.bind (one_same (by omega) n1 c (by omega)) (many_if rfl (Ev.bind n1 ?_))
    have hb : (n != n) = false := by simp
    show Ev (fun k => caravanlaw1_SlotMany.j2 k s t a3 (List.replicate (c + 1) s) (n != n)) true
    rw [hb]
    exact many_j2 s t a3 c hs ht h3 hc
  | d + 1, i, h => by
    have ih := many_l0 s t a1 a3 c hs ht h1 h3 hc d (i + 1) (by clear h1; omega)
    have d1 : (i : Int) < ((c + 1 : Nat) : Int) := by clear h1; omega
    have d2 : (List.replicate i s).length < 8796093022208 := by clear h1; rw [List.length_replicate]; omega
    refine Ev.step (fun k => ?_) ih
    rw [caravanlaw1_SlotMany.l0, h1, if_pos d1, if_pos d2, w1 (by clear h1; omega), ← List.replicate_succ']
theorem many_awake (a0 : ByteArray) (a1 : Int) (a2 : ByteArray) (a3 : Int) : Ev (fun k => caravanlaw1_SlotMany.j0 k a0 a1 a2 a3 true) true :=
  Ev.step (fun k => by rw [caravanlaw1_SlotMany.j0, if_pos rfl]) (Ev.bind awake_ev (Ev.now true))
theorem SlotMany : caravanlaw1_SlotMany.Pure := by
  intro a0 a1 a2 a3 _ w1' _ w3'
  have h1 : 0 ≤ a1 ∧ a1 ≤ 255 := by
    simp [Lit.wf, IntKind.min, IntKind.max, IntKind.signed, IntKind.bits] at w1'
    omega
  have h3 : 0 ≤ a3 ∧ a3 ≤ 255 := by
    simp [Lit.wf, IntKind.min, IntKind.max, IntKind.signed, IntKind.bits] at w3'
    omega
  refine Ev.rounds (r := true) ?_
  by_cases c0 : (a0.size : Int) > 60
  · exact Ev.congr (fun k => by show caravanlaw1_SlotMany.f k a0 a1 a2 a3 = _; unfold caravanlaw1_SlotMany.f; rw [if_pos c0]) (many_awake a0 a1 a2 a3)
  · by_cases c2 : (a2.size : Int) > 60
    · exact Ev.congr (fun k => by show caravanlaw1_SlotMany.f k a0 a1 a2 a3 = _; unfold caravanlaw1_SlotMany.f; rw [if_neg c0, decide_eq_true c2]) (many_awake a0 a1 a2 a3)
    · obtain ⟨c, hc, hc6⟩ := tmod_nat (n := 6) h1.1 (by decide)
      have hw : wrap64 (1 + Int.tmod (wrap64 a1) 6) = ((c + 1 : Nat) : Int) := by
        rw [wn (i := a1) (by omega) (by omega), show Int.tmod a1 6 = (c : Int) from hc, wn (by omega) (by omega)]
        omega
      refine Ev.congr (fun k => by show caravanlaw1_SlotMany.f k a0 a1 a2 a3 = _; unfold caravanlaw1_SlotMany.f; rw [if_neg c0, decide_eq_false c2]) ?_
      refine Ev.step (fun k => ?_) (many_l0 a0 a2 a1 a3 c (by clear hw; omega) (by clear hw; omega) hw h3 hc6 (c + 1) 0 (by clear hw; omega))
      rw [caravanlaw1_SlotMany.j0, if_neg Bool.false_ne_true]
      rfl
end Go.Proofs.Ytgbncimfkjfjcaa.Pure

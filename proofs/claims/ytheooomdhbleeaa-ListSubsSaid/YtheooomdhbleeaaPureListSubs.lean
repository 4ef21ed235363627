/-
  The plain law behind the law ListSubs: what its Lean function computes is true. Conditions: none of its own.
-/
import Derived.Test.YtheooomdhbleeaaListL
import Derived.Test.YtheooomdhbleeaaLYs
namespace Go.Proofs.Ytheooomdhbleeaa.Pure
open Go.RowKit Go.Proofs.Ytheooomdhbleeaa.LY Go.Proofs.YtheooomdhbleeaaW.PrintWords Go.Proofs.YtheooomdhbleeaaW.PrintLast Go.Proofs.YtheooomdhbleeaaW.PrintMore
theorem ev_if {α : Type} {c : Prop} [Decidable c] {g h : Nat → Option α} {r : α} (hc : c) (e : Ev g r) : Ev (fun k => if c then g k else h k) r := Ev.congr (fun _ => if_pos hc) e
theorem ev_ifn {α : Type} {c : Prop} [Decidable c] {g h : Nat → Option α} {r : α} (hc : ¬ c) (e : Ev h r) : Ev (fun k => if c then g k else h k) r := Ev.congr (fun _ => if_neg hc) e
theorem ev_some {α β : Type} {x : α} {f : Nat → α → Option β} {r : β} (e : Ev (fun k => f k x) r) : Ev (fun k => (some x).bind (f k)) r := e
theorem subs_awake (l0 : List Int) (a1 a2 : Int) : Ev (fun k => caravanlaw8_ListSubs.j0 k l0 a1 a2 true) true := by
  refine Ev.step (f := fun k => (caravanlaw8_awake.f k).bind fun t => some t) (fun k => ?_) (Ev.bind awake_ev (Ev.now true))
  show caravanlaw8_ListSubs.j0 (k + 1) l0 a1 a2 true = _
  rw [caravanlaw8_ListSubs.j0, if_pos rfl]
theorem tmod_nat {a : Int} {n : Nat} (ha : 0 ≤ a) (hn : 0 < n) : ∃ i : Nat, Int.tmod a (n : Int) = (i : Int) ∧ i < n := by
  refine ⟨(Int.tmod a (n : Int)).toNat, ?_, ?_⟩
  · rw [Int.tmod_eq_emod_of_nonneg ha]
    have := Int.emod_nonneg a (show (n : Int) ≠ 0 by omega)
    omega
  · rw [Int.tmod_eq_emod_of_nonneg ha]
    have := Int.emod_lt_of_pos a (show (0 : Int) < (n : Int) by omega)
    have := Int.emod_nonneg a (show (n : Int) ≠ 0 by omega)
    omega
theorem subs_j0 (l0 : List Int) (a1 a2 : Int) (h0 : l0.length ≠ 0) (h60 : l0.length ≤ 60) (ha0 : 0 ≤ a1) (ha1 : a1 ≤ 255) (hb0 : 0 ≤ a2) (hb1 : a2 ≤ 255) : Ev (fun k => caravanlaw8_ListSubs.j0 k l0 a1 a2 false) true := by
  obtain ⟨L, hL, hLl⟩ := letters_ev l0 (by omega)
  refine Ev.step (fun k => by rw [caravanlaw8_ListSubs.j0, if_neg Bool.false_ne_true]) (Ev.bind hL ?_)
  rw [← hLl] at h0 h60
  clear hL hLl
  obtain ⟨n, hn⟩ : ∃ n, L.length = n := ⟨_, rfl⟩
  rw [hn] at h0 h60 ⊢
  obtain ⟨i, hi, hin⟩ := tmod_nat (n := n) ha0 (by omega)
  obtain ⟨q, hq, hqn⟩ := tmod_nat (n := n - i) hb0 (by omega)
  have wa : wrap64 a1 = a1 := wn (by omega) (by omega)
  have wb : wrap64 a2 = a2 := by clear wa; exact wn (by omega) (by omega)
  have e1 : wrap64 ((n : Int) - (i : Int)) = ((n - i : Nat) : Int) := by clear wa wb hi hq; rw [wn (by omega) (by omega)]; omega
  have e2 : wrap64 ((i : Int) + 1) = ((i + 1 : Nat) : Int) := by clear wa wb hi hq e1; exact w1 (by omega)
  have e3 : wrap64 ((i : Int) + (q : Int)) = ((i + q : Nat) : Int) := by clear wa wb hi hq e1 e2; rw [wn (by omega) (by omega)]; omega
  have e4 : wrap64 (((i + q : Nat) : Int) + 1) = ((i + q + 1 : Nat) : Int) := by clear wa wb hi hq e1 e2 e3; exact w1 (by omega)
  have e5 : wrap64 ((i : Int) - (n : Int)) = (i : Int) - (n : Int) := by clear wa wb hi hq e1 e2 e3 e4; exact wn (by omega) (by omega)
  have e6 : wrap64 (((i + q : Nat) : Int) - (n : Int)) = ((i + q : Nat) : Int) - (n : Int) := by clear wa wb hi hq e1 e2 e3 e4 e5; exact wn (by omega) (by omega)
  simp only [wa, wb, hi, e1, hq, e2, e3, e4, e5, e6, Int.toNat_natCast]
  clear wa wb hi hq e1 e2 e3 e4 e5 e6
  obtain ⟨s, hs⟩ : ∃ s, i + q = s := ⟨_, rfl⟩
  rw [hs]
  have his : i ≤ s := by omega
  have hsn : s < n := by omega
  clear hs hqn
  have x1 : Ev (fun k => list_Sub.f k L 0 (i : Int)) (L.take (i + 1)) :=
    sub_ev (l := L) (a := 0) (b := (i : Int)) (lo := 0) (hi := i + 1) (by omega) (by omega) (by omega) (by unfold pl; rw [if_neg (by omega)]; omega) (by unfold pl; rw [if_neg (by omega)]; omega)
  have x2 : Ev (fun k => list_Sub.f k L ((i + 1 : Nat) : Int) (-1)) (L.drop (i + 1)) := by
    have h := sub_ev (l := L) (a := ((i + 1 : Nat) : Int)) (b := -1) (lo := i + 1) (hi := n) (by omega) (by omega) (by omega) (by unfold pl; rw [if_neg (by omega)]; omega) (by unfold pl; rw [if_pos (by omega)]; omega)
    rwa [List.take_of_length_le (by omega)] at h
  have x3 : Ev (fun k => list_Sub.f k L (i : Int) (s : Int)) ((L.take (s + 1)).drop i) :=
    sub_ev (l := L) (a := (i : Int)) (b := (s : Int)) (lo := i) (hi := s + 1) (by omega) (by omega) (by omega) (by unfold pl; rw [if_neg (by omega)]; omega) (by unfold pl; rw [if_neg (by omega)]; omega)
  have x4 : Ev (fun k => list_Sub.f k L ((i : Int) - (n : Int)) ((s : Int) - (n : Int))) ((L.take (s + 1)).drop i) :=
    sub_ev (l := L) (a := (i : Int) - (n : Int)) (b := (s : Int) - (n : Int)) (lo := i) (hi := s + 1) (by omega) (by omega) (by omega) (by unfold pl; rw [if_pos (by omega)]; omega) (by unfold pl; rw [if_pos (by omega)]; omega)
  have hpl : ((L.take (s + 1)).drop i).length = s + 1 - i := by rw [List.length_drop, List.length_take]; omega
  have x5 : Ev (fun k => list_Sub.f k ((L.take (s + 1)).drop i) 0 (-1)) ((L.take (s + 1)).drop i) := by
    have h := sub_ev (l := (L.take (s + 1)).drop i) (a := 0) (b := -1) (lo := 0) (hi := s + 1 - i) (by omega) (by omega) (by omega) (by unfold pl; rw [if_neg (by omega)]; omega) (by unfold pl; rw [if_pos (by omega)]; omega)
    rwa [List.take_of_length_le (l := (L.take (s + 1)).drop i) (by omega), List.drop_zero] at h
  have x6 : Ev (fun k => list_Sub.f k L ((s + 1 : Nat) : Int) (s : Int)) ([] : List ByteArray) := by
    have h := sub_ev (l := L) (a := ((s + 1 : Nat) : Int)) (b := (s : Int)) (lo := s + 1) (hi := s + 1) (by omega) (by omega) (by omega) (by unfold pl; rw [if_neg (by omega)]; omega) (by unfold pl; rw [if_neg (by omega)]; omega)
    have e : (L.take (s + 1)).drop (s + 1) = [] := by
      rw [List.drop_eq_nil_iff, List.length_take]
      omega
    rwa [e] at h
  have x7 : Ev (fun k => list_Sub.f k L (-100) 100) L := by
    have h := sub_ev (l := L) (a := -100) (b := 100) (lo := 0) (hi := n) (by omega) (by omega) (by omega) (by unfold pl; rw [if_pos (by omega)]; omega) (by unfold pl; rw [if_neg (by omega)]; omega)
    rwa [List.take_of_length_le (by omega), List.drop_zero] at h
  refine ev_ifn (by omega) (ev_ifn (by omega) (Ev.bind x1 (Ev.bind x2 (Ev.bind x3 ?_))))
  refine ev_some (ev_if (by rw [List.length_take]; show 0 + _ < _; omega) ?_)
  refine ev_some (ev_if (by rw [List.nil_append, List.length_take, List.length_drop]; omega) ?_)
  refine Ev.bind (texts_same (by rw [List.nil_append, List.length_append, List.length_take, List.length_drop]; omega) (by rw [List.nil_append, List.take_append_drop])) (ev_if rfl ?_)
  refine ev_if (by omega) (ev_if (by omega) (ev_if (by omega) ?_))
  refine Ev.bind (texts_refl _ (by omega)) (ev_if rfl ?_)
  refine Ev.bind x4 (Ev.bind (texts_refl _ (by omega)) (ev_if rfl ?_))
  refine Ev.bind x5 (Ev.bind (texts_refl _ (by omega)) (ev_if rfl ?_))
  refine Ev.bind x6 (ev_if rfl ?_)
  exact Ev.bind x7 (Ev.bind (texts_refl _ (by omega)) (ev_if rfl (Ev.bind awake_ev (Ev.now true))))
theorem ListSubs : caravanlaw8_ListSubs.Pure := by
  intro l0 a1 a2 hm hb hw hw1 hw2
  have hn1 : 0 ≤ a1 ∧ a1 ≤ 255 := by
    simp [Lit.wf, IntKind.min, IntKind.max, IntKind.signed, IntKind.bits] at hw1
    omega
  have hn2 : 0 ≤ a2 ∧ a2 ≤ 255 := by
    simp [Lit.wf, IntKind.min, IntKind.max, IntKind.signed, IntKind.bits] at hw2
    omega
  refine Ev.rounds (r := true) ?_
  by_cases hl : (l0.length : Int) = 0
  · exact Ev.congr (fun k => by show caravanlaw8_ListSubs.f k l0 a1 a2 = _; unfold caravanlaw8_ListSubs.f; rw [if_pos hl]) (subs_awake l0 a1 a2)
  · by_cases hs : (l0.length : Int) > 60
    · exact Ev.congr (fun k => by show caravanlaw8_ListSubs.f k l0 a1 a2 = _; unfold caravanlaw8_ListSubs.f; rw [if_neg hl, decide_eq_true hs]) (subs_awake l0 a1 a2)
    · exact Ev.congr (fun k => by show caravanlaw8_ListSubs.f k l0 a1 a2 = _; unfold caravanlaw8_ListSubs.f; rw [if_neg hl, decide_eq_false hs]) (subs_j0 l0 a1 a2 (by omega) (by omega) hn1.1 hn1.2 hn2.1 hn2.2)
end Go.Proofs.Ytheooomdhbleeaa.Pure

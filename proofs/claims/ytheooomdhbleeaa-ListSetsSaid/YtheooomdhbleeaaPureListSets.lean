/-
  The plain law behind the law ListSets: what its Lean function computes is true. Conditions: none of its own.
-/
import Derived.Test.YtheooomdhbleeaaListL
namespace Go.Proofs.Ytheooomdhbleeaa.Pure
open Go.RowKit Go.Proofs.Ytheooomdhbleeaa.LY Go.Proofs.YtheooomdhbleeaaW.PrintWords Go.Proofs.YtheooomdhbleeaaW.PrintLast Go.Proofs.YtheooomdhbleeaaW.PrintMore
theorem sets_l0 (L : List ByteArray) (v : ByteArray) (p : Nat) (hL : L.length ≤ 60) (hp : p < L.length) : ∀ (m i : Nat), i + m = L.length →
    Ev (fun k => caravanlaw8_ListSets.l0 k v L (p : Int) (L.set p v) (i : Int)) true
  | 0, i, h => by
    have d1 : ¬ ((i : Int) < ((L.set p v).length : Int)) := by rw [List.length_set]; omega
    have hs : (L.set p v).length = L.length := List.length_set
    have h1 : list_At.f (L.set p v) (p : Int) = some (v, true) := by
      rw [at_in (i := p) (by omega) (by omega) (by omega) (by unfold pl; rw [if_neg (by omega)]), List.getElem?_set_self hp]
      rfl
    have h2 : list_At.f (L.set p v) (wrap64 ((p : Int) - (L.length : Int))) = some (v, true) := by
      rw [wn (by omega) (by omega), at_in (i := p) (by omega) (by omega) (by omega) (by unfold pl; rw [if_pos (by omega)]; omega), List.getElem?_set_self hp]
      rfl
    refine Ev.step (f := fun k => (caravanlaw8_awake.f k).bind fun t => some t) (fun k => ?_) (Ev.bind awake_ev (Ev.now true))
    show caravanlaw8_ListSets.l0 (k + 1) v L (p : Int) (L.set p v) (i : Int) = _
    rw [caravanlaw8_ListSets.l0, if_neg d1, h1, Option.bind_some, h2, Option.bind_some, if_pos rfl, if_pos rfl, if_pos rfl, if_pos rfl]
  | m + 1, i, h => by
    have ih := sets_l0 L v p hL hp m (i + 1) (by omega)
    have hs : (L.set p v).length = L.length := List.length_set
    have d1 : (i : Int) < ((L.set p v).length : Int) := by omega
    have d2 : (0 : Int) ≤ (i : Int) := by omega
    have d3 : (i : Int) < (L.length : Int) := by omega
    refine Ev.step (f := fun k => caravanlaw8_ListSets.l0 k v L (p : Int) (L.set p v) ((i + 1 : Nat) : Int)) (fun k => ?_) ih
    show caravanlaw8_ListSets.l0 (k + 1) v L (p : Int) (L.set p v) (i : Int) = _
    rw [caravanlaw8_ListSets.l0, if_pos d1, w1 (by omega), rdOf_nat, rdOf_nat]
    by_cases hc : (i : Int) = (p : Int)
    · obtain rfl : i = p := by omega
      have hv : ((L.set i v)[i]?.getD ByteArray.empty).toList = v.toList := by rw [List.getElem?_set_self hp]; rfl
      rw [if_pos hc, if_pos d2, if_pos hv]
    · have hv : ((L.set p v)[i]?.getD ByteArray.empty).toList = (L[i]?.getD ByteArray.empty).toList := by rw [List.getElem?_set_ne (by omega)]
      rw [if_neg hc, if_pos d2, if_pos d3, if_pos hv]
theorem sets_awake (l0 : List Int) (a1 : Int) (a2 : ByteArray) : Ev (fun k => caravanlaw8_ListSets.j0 k l0 a1 a2 true) true := by
  refine Ev.step (f := fun k => (caravanlaw8_awake.f k).bind fun t => some t) (fun k => ?_) (Ev.bind awake_ev (Ev.now true))
  show caravanlaw8_ListSets.j0 (k + 1) l0 a1 a2 true = _
  rw [caravanlaw8_ListSets.j0, if_pos rfl]
theorem sets_in (L : List ByteArray) (v : ByteArray) (p : Nat) (hL : L.length ≤ 60) (hp : p < L.length) : Ev (fun k => caravanlaw8_ListSets.j2 k v L (p : Int) (L.set p v) true) true := by
  refine Ev.step (f := fun k => caravanlaw8_ListSets.j3 k v L (p : Int) (L.set p v) false) (fun k => ?_) (Ev.step (f := fun k => caravanlaw8_ListSets.l0 k v L (p : Int) (L.set p v) 0) (fun k => ?_) (sets_l0 L v p hL hp L.length 0 (by omega)))
  · show caravanlaw8_ListSets.j2 (k + 1) v L (p : Int) (L.set p v) true = _
    have hb : (((L.set p v).length : Int) != (L.length : Int)) = false := by rw [List.length_set]; simp
    rw [caravanlaw8_ListSets.j2, if_pos rfl, hb]
  · show caravanlaw8_ListSets.j3 (k + 1) v L (p : Int) (L.set p v) false = _
    rw [caravanlaw8_ListSets.j3, if_neg Bool.false_ne_true]
theorem sets_j0 (l0 : List Int) (a1 : Int) (a2 : ByteArray) (hl : l0.length ≤ 60) (h0 : -128 ≤ a1) (h1 : a1 ≤ 127) : Ev (fun k => caravanlaw8_ListSets.j0 k l0 a1 a2 false) true := by
  obtain ⟨L, hL, hLl⟩ := letters_ev l0 (by omega)
  have hw : wrap64 a1 = a1 := wn (by omega) (by omega)
  have hwl : wrap64 (-(L.length : Int)) = -(L.length : Int) := wn (by clear hw; omega) (by clear hw; omega)
  have out : ¬ (0 ≤ pl L.length a1 ∧ pl L.length a1 < (L.length : Int)) → Ev (fun k => caravanlaw8_ListSets.j1 k a2 L a1 [] false true) true := by
    intro hn
    refine Ev.step (f := fun k => (caravanlaw8_awake.f k).bind fun t => some t) (fun k => ?_) (Ev.bind awake_ev (Ev.now true))
    show caravanlaw8_ListSets.j1 (k + 1) a2 L a1 [] false true = _
    rw [caravanlaw8_ListSets.j1, if_pos rfl, at_out (by clear hw hwl; omega) (by clear hw hwl; omega) hn, Option.bind_some, if_neg Bool.false_ne_true, if_pos (by rfl), if_neg Bool.false_ne_true]
  by_cases hn : 0 ≤ pl L.length a1 ∧ pl L.length a1 < (L.length : Int)
  · obtain ⟨p, hp⟩ : ∃ p : Nat, pl L.length a1 = (p : Int) := ⟨(pl L.length a1).toNat, by omega⟩
    have hpl : p < L.length := by omega
    have hset : list_Set.f L a1 a2 = some (L.set p a2, true) := set_in (by clear hw hwl; omega) (by clear hw hwl; omega) hpl hp
    have c1 : ¬ (a1 < -(L.length : Int)) := by clear hw hwl; unfold pl at hn; split at hn <;> omega
    have c2 : ¬ (a1 ≥ (L.length : Int)) := by clear hw hwl; unfold pl at hn; split at hn <;> omega
    refine Ev.step (f := fun k => (caravanlaw8_letters.f k l0).bind fun t152 => ((list_Set.f t152 (wrap64 (a1)) a2).bind fun bt155 => (if (wrap64 (a1)) < (wrap64 (-(t152.length : Int))) then (caravanlaw8_ListSets.j1 k a2 t152 (wrap64 (a1)) bt155.1 bt155.2 true) else (caravanlaw8_ListSets.j1 k a2 t152 (wrap64 (a1)) bt155.1 bt155.2 (decide ((wrap64 (a1)) ≥ (t152.length : Int)))))))
      (fun k => by rw [caravanlaw8_ListSets.j0, if_neg Bool.false_ne_true]) (Ev.bind hL ?_)
    refine Ev.congr (f := fun k => caravanlaw8_ListSets.j1 k a2 L a1 (L.set p a2) true false) (fun k => ?_) (Ev.step (f := fun k => caravanlaw8_ListSets.j2 k a2 L (p : Int) (L.set p a2) true) (fun k => ?_) (sets_in L a2 p (by clear hw hwl; omega) hpl))
    · show (list_Set.f L (wrap64 a1) a2).bind _ = _
      rw [hw, hset, Option.bind_some, hwl, if_neg c1, decide_eq_false c2]
    · show caravanlaw8_ListSets.j1 (k + 1) a2 L a1 (L.set p a2) true false = _
      rw [caravanlaw8_ListSets.j1, if_neg Bool.false_ne_true]
      unfold pl at hp
      by_cases ha : a1 < 0
      · rw [if_pos ha] at hp
        rw [if_pos ha, hp, wn (by clear hw hwl; omega) (by clear hw hwl; omega)]
      · rw [if_neg ha] at hp
        rw [if_neg ha, hp]
  · have hset : list_Set.f L a1 a2 = some ([], false) := set_out (by clear hw hwl; omega) (by clear hw hwl; omega) hn
    refine Ev.step (f := fun k => (caravanlaw8_letters.f k l0).bind fun t152 => ((list_Set.f t152 (wrap64 (a1)) a2).bind fun bt155 => (if (wrap64 (a1)) < (wrap64 (-(t152.length : Int))) then (caravanlaw8_ListSets.j1 k a2 t152 (wrap64 (a1)) bt155.1 bt155.2 true) else (caravanlaw8_ListSets.j1 k a2 t152 (wrap64 (a1)) bt155.1 bt155.2 (decide ((wrap64 (a1)) ≥ (t152.length : Int)))))))
      (fun k => by rw [caravanlaw8_ListSets.j0, if_neg Bool.false_ne_true]) (Ev.bind hL ?_)
    refine Ev.congr (f := fun k => caravanlaw8_ListSets.j1 k a2 L a1 [] false true) (fun k => ?_) (out hn)
    show (list_Set.f L (wrap64 a1) a2).bind _ = _
    rw [hw, hset, Option.bind_some, hwl]
    by_cases c1 : a1 < -(L.length : Int)
    · rw [if_pos c1]
    · have c2 : a1 ≥ (L.length : Int) := by clear hw hwl; unfold pl at hn; split at hn <;> omega
      rw [if_neg c1, decide_eq_true c2]
theorem ListSets : caravanlaw8_ListSets.Pure := by
  intro l0 a1 a2 hm hb hw hw1 ha2
  have hn : -128 ≤ a1 ∧ a1 ≤ 127 := by
    simp [Lit.wf, IntKind.min, IntKind.max, IntKind.signed, IntKind.bits] at hw1
    omega
  refine Ev.rounds (r := true) ?_
  by_cases hl : (l0.length : Int) > 60
  · exact Ev.congr (fun k => by show caravanlaw8_ListSets.f k l0 a1 a2 = _; unfold caravanlaw8_ListSets.f; rw [if_pos hl]) (sets_awake l0 a1 a2)
  · by_cases hs : (a2.size : Int) > 60
    · exact Ev.congr (fun k => by show caravanlaw8_ListSets.f k l0 a1 a2 = _; unfold caravanlaw8_ListSets.f; rw [if_neg hl, decide_eq_true hs]) (sets_awake l0 a1 a2)
    · exact Ev.congr (fun k => by show caravanlaw8_ListSets.f k l0 a1 a2 = _; unfold caravanlaw8_ListSets.f; rw [if_neg hl, decide_eq_false hs]) (sets_j0 l0 a1 a2 (by omega) hn.1 hn.2)
end Go.Proofs.Ytheooomdhbleeaa.Pure

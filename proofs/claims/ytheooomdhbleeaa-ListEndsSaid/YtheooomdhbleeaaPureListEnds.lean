/-
  The plain law behind the law ListEnds: what its Lean function computes is true. Conditions: none of its own.
-/
import Derived.Test.YtheooomdhbleeaaListL
namespace Go.Proofs.Ytheooomdhbleeaa.Pure
open Go.RowKit Go.Proofs.Ytheooomdhbleeaa.LY Go.Proofs.YtheooomdhbleeaaW.PrintWords Go.Proofs.YtheooomdhbleeaaW.PrintLast Go.Proofs.YtheooomdhbleeaaW.PrintMore
theorem ends_front (l v : List ByteArray) (hl : l.length ≤ 40) (hv : v.length ≤ 40) : ∀ (m i : Nat), i + m = v.length → Ev (fun k => caravanlaw8_ListEnds.l0 k true l v (v.reverse ++ l) (i : Int)) true
  | 0, i, h => by
    have d1 : ¬ ((i : Int) < (v.length : Int)) := by omega
    have hm : (v.reverse ++ l).length = v.length + l.length := by rw [List.length_append, List.length_reverse]
    have hsub : Ev (fun k => list_Sub.f k (v.reverse ++ l) (v.length : Int) (-1)) l := by
      have h1 := sub_ev (l := v.reverse ++ l) (a := (v.length : Int)) (b := -1) (lo := v.length) (hi := v.length + l.length) (by omega) (by omega) (by omega) (by unfold pl; rw [if_neg (by omega)]; omega) (by unfold pl; rw [if_pos (by omega)]; omega)
      have h2 : ((v.reverse ++ l).take (v.length + l.length)).drop v.length = l := by
        rw [List.take_of_length_le (by omega), List.drop_append_of_le_length (by rw [List.length_reverse]; omega), List.drop_of_length_le (by rw [List.length_reverse]; omega), List.nil_append]
      rwa [h2] at h1
    refine Ev.step (f := fun k => (list_Sub.f k (v.reverse ++ l) (v.length : Int) (-1)).bind fun t193 => ((caravanref1_Texts.f k t193 l).bind fun t196 => (if t196 = true then ((caravanlaw8_awake.f k).bind fun t197 => (some t197)) else (some false)))) (fun k => ?_)
      (Ev.bind hsub (Ev.bind (texts_refl l (by omega)) (Ev.congr (fun k => if_pos rfl) (Ev.bind awake_ev (Ev.now true)))))
    show caravanlaw8_ListEnds.l0 (k + 1) true l v (v.reverse ++ l) (i : Int) = _
    rw [caravanlaw8_ListEnds.l0, if_neg d1, if_pos rfl]
  | m + 1, i, h => by
    have ih := ends_front l v hl hv m (i + 1) (by omega)
    have hm : (v.reverse ++ l).length = v.length + l.length := by rw [List.length_append, List.length_reverse]
    have d1 : (i : Int) < (v.length : Int) := by omega
    have d2 : (0 : Int) ≤ (i : Int) := by omega
    have d3 : (0 : Int) ≤ ((v.length - 1 - i : Nat) : Int) := by omega
    have d4 : ((v.length - 1 - i : Nat) : Int) < ((v.reverse ++ l).length : Int) := by omega
    have hv2 : ((v.reverse ++ l)[v.length - 1 - i]?.getD ByteArray.empty).toList = (v[i]?.getD ByteArray.empty).toList := by
      rw [List.getElem?_append_left (by rw [List.length_reverse]; omega), List.getElem?_reverse (by omega), show v.length - 1 - (v.length - 1 - i) = i by omega]
    have e : wrap64 (-(wrap64 ((wrap64 ((wrap64 (-(v.length : Int))) + (i : Int))) + 1))) = ((v.length - 1 - i : Nat) : Int) := by
      rw [wn (i := -(v.length : Int)) (by omega) (by omega), wn (i := -(v.length : Int) + (i : Int)) (by omega) (by omega), wn (i := -(v.length : Int) + (i : Int) + 1) (by omega) (by omega), wn (by omega) (by omega)]
      omega
    refine Ev.step (f := fun k => caravanlaw8_ListEnds.l0 k true l v (v.reverse ++ l) ((i + 1 : Nat) : Int)) (fun k => ?_) ih
    show caravanlaw8_ListEnds.l0 (k + 1) true l v (v.reverse ++ l) (i : Int) = _
    rw [caravanlaw8_ListEnds.l0, if_pos d1, if_pos rfl, e, if_pos d3, if_pos d4, if_pos d2, rdOf_nat, rdOf_nat, if_pos hv2, w1 (by clear e; omega)]
theorem ends_back (l v : List ByteArray) (hl : l.length ≤ 40) (hv : v.length ≤ 40) : ∀ (m i : Nat), i + m = v.length → Ev (fun k => caravanlaw8_ListEnds.l0 k false l v (l ++ v) (i : Int)) true
  | 0, i, h => by
    have d1 : ¬ ((i : Int) < (v.length : Int)) := by omega
    have hm : (l ++ v).length = l.length + v.length := List.length_append
    have hf : ∀ k, caravanlaw8_ListEnds.l0 (k + 1) false l v (l ++ v) (i : Int) = ((list_Sub.f k (l ++ v) 0 (wrap64 ((l.length : Int) - 1))).bind fun t198 => ((caravanref1_Texts.f k t198 l).bind fun t201 => (if (l.length : Int) > 0 then (if (t201 == true) = true then ((caravanlaw8_awake.f k).bind fun t202 => (some t202)) else (some false)) else (if (t201 == (((l ++ v).length : Int) == 0)) = true then ((caravanlaw8_awake.f k).bind fun t203 => (some t203)) else (some false))))) := by
      intro k
      rw [caravanlaw8_ListEnds.l0, if_neg d1, if_neg Bool.false_ne_true]
    have hw : wrap64 ((l.length : Int) - 1) = (l.length : Int) - 1 := wn (by omega) (by omega)
    refine Ev.step (fun k => hf k) ?_
    rw [hw]
    clear hw hf
    by_cases h0 : l.length = 0
    · obtain rfl : l = [] := List.length_eq_zero_iff.1 h0
      have hsub : Ev (fun k => list_Sub.f k ([] ++ v) 0 (((([] : List ByteArray).length : Nat) : Int) - 1)) v := by
        have h1 := sub_ev (l := v) (a := 0) (b := -1) (lo := 0) (hi := v.length) (by omega) (by omega) (by omega) (by unfold pl; rw [if_neg (by omega)]; omega) (by unfold pl; rw [if_pos (by omega)]; omega)
        rw [List.take_of_length_le (by omega), List.drop_zero] at h1
        exact h1
      by_cases hv0 : v.length = 0
      · obtain rfl : v = [] := List.length_eq_zero_iff.1 hv0
        exact Ev.bind hsub (Ev.bind (texts_refl [] (by decide)) (Ev.congr (fun k => by rw [if_neg (by decide)]; exact if_pos (by decide)) (Ev.bind awake_ev (Ev.now true))))
      · refine Ev.bind hsub (Ev.bind (texts_ne (by show v.length ≠ 0; exact hv0)) (Ev.congr (fun k => ?_) (Ev.bind awake_ev (Ev.now true))))
        have hb : ((([] ++ v : List ByteArray).length : Int) == 0) = false := by
          rw [List.nil_append, beq_eq_false_iff_ne]
          omega
        rw [if_neg (by decide), hb]
        exact if_pos rfl
    · have hsub : Ev (fun k => list_Sub.f k (l ++ v) 0 ((l.length : Int) - 1)) l := by
        have h1 := sub_ev (l := l ++ v) (a := 0) (b := (l.length : Int) - 1) (lo := 0) (hi := l.length) (by omega) (by omega) (by omega) (by unfold pl; rw [if_neg (by omega)]; omega) (by unfold pl; rw [if_neg (by omega)]; omega)
        rw [List.take_left, List.drop_zero] at h1
        exact h1
      have hp : (l.length : Int) > 0 := by omega
      exact Ev.bind hsub (Ev.bind (texts_refl l (by omega)) (Ev.congr (fun k => by rw [if_pos hp]; exact if_pos (by decide)) (Ev.bind awake_ev (Ev.now true))))
  | m + 1, i, h => by
    have ih := ends_back l v hl hv m (i + 1) (by omega)
    have hm : (l ++ v).length = l.length + v.length := List.length_append
    have d1 : (i : Int) < (v.length : Int) := by omega
    have d2 : (0 : Int) ≤ (i : Int) := by omega
    have hv2 : (((l ++ v)[l.length + i]?).getD ByteArray.empty).toList = (v[i]?.getD ByteArray.empty).toList := by
      rw [List.getElem?_append_right (by omega), show l.length + i - l.length = i by omega]
    have hat : list_At.f (l ++ v) (-((v.length : Int) - (i : Int))) = some ((l ++ v)[l.length + i]?.getD ByteArray.empty, true) :=
      at_in (by omega) (by omega) (by omega) (by unfold pl; rw [if_pos (by omega)]; omega)
    have e : wrap64 (-(wrap64 ((v.length : Int) - (i : Int)))) = -((v.length : Int) - (i : Int)) := by
      rw [wn (i := (v.length : Int) - (i : Int)) (by omega) (by omega), wn (by omega) (by omega)]
    refine Ev.step (f := fun k => caravanlaw8_ListEnds.l0 k false l v (l ++ v) ((i + 1 : Nat) : Int)) (fun k => ?_) ih
    show caravanlaw8_ListEnds.l0 (k + 1) false l v (l ++ v) (i : Int) = _
    rw [caravanlaw8_ListEnds.l0, if_pos d1, if_neg Bool.false_ne_true, e, hat, Option.bind_some, if_pos rfl, if_pos d2, rdOf_nat, if_pos hv2, w1 (by clear e; omega)]
theorem ends_awake (l0 l1 : List Int) (a2 : Bool) : Ev (fun k => caravanlaw8_ListEnds.j0 k l0 l1 a2 true) true := by
  refine Ev.step (f := fun k => (caravanlaw8_awake.f k).bind fun t => some t) (fun k => ?_) (Ev.bind awake_ev (Ev.now true))
  show caravanlaw8_ListEnds.j0 (k + 1) l0 l1 a2 true = _
  rw [caravanlaw8_ListEnds.j0, if_pos rfl]
theorem ends_j0 (l0 l1 : List Int) (b : Bool) (h0 : l0.length ≤ 40) (h1 : l1.length ≤ 40) : Ev (fun k => caravanlaw8_ListEnds.j0 k l0 l1 b false) true := by
  obtain ⟨l, hl, hll⟩ := letters_ev l0 (by omega)
  obtain ⟨v, hv, hvl⟩ := letters_ev l1 (by omega)
  have hlen : ((if b = true then v.reverse ++ l else l ++ v).length : Int) = (l.length : Int) + (v.length : Int) := by
    split
    · rw [List.length_append, List.length_reverse]; omega
    · rw [List.length_append]; omega
  refine Ev.step (f := fun k => (caravanlaw8_letters.f k l0).bind fun t179 => ((caravanlaw8_letters.f k l1).bind fun t182 => ((list_Push.f k t179 b t182).bind fun t185 => (if (t185.length : Int) = (wrap64 ((t179.length : Int) + (t182.length : Int))) then (caravanlaw8_ListEnds.l0 k b t179 t182 t185 0) else (some false)))))
    (fun k => by rw [caravanlaw8_ListEnds.j0, if_neg Bool.false_ne_true]) (Ev.bind hl (Ev.bind hv (Ev.bind (push_ev l v b (by omega) (by omega)) ?_)))
  have hw : wrap64 ((l.length : Int) + (v.length : Int)) = (l.length : Int) + (v.length : Int) := wn (by omega) (by omega)
  refine Ev.congr (f := fun k => caravanlaw8_ListEnds.l0 k b l v (if b = true then v.reverse ++ l else l ++ v) 0) (fun k => ?_) ?_
  · rw [hw]
    exact if_pos hlen
  · cases b with
    | true => exact ends_front l v (by clear hw; omega) (by clear hw; omega) v.length 0 (by clear hw; omega)
    | false => exact ends_back l v (by clear hw; omega) (by clear hw; omega) v.length 0 (by clear hw; omega)
theorem ListEnds : caravanlaw8_ListEnds.Pure := by
  intro l0 l1 a2 hm hb hw hm1 hb1 hw1
  refine Ev.rounds (r := true) ?_
  by_cases hl : (l0.length : Int) > 40
  · exact Ev.congr (fun k => by show caravanlaw8_ListEnds.f k l0 l1 a2 = _; unfold caravanlaw8_ListEnds.f; rw [if_pos hl]) (ends_awake l0 l1 a2)
  · by_cases hs : (l1.length : Int) > 40
    · exact Ev.congr (fun k => by show caravanlaw8_ListEnds.f k l0 l1 a2 = _; unfold caravanlaw8_ListEnds.f; rw [if_neg hl, decide_eq_true hs]) (ends_awake l0 l1 a2)
    · exact Ev.congr (fun k => by show caravanlaw8_ListEnds.f k l0 l1 a2 = _; unfold caravanlaw8_ListEnds.f; rw [if_neg hl, decide_eq_false hs]) (ends_j0 l0 l1 a2 (by omega) (by omega))
end Go.Proofs.Ytheooomdhbleeaa.Pure

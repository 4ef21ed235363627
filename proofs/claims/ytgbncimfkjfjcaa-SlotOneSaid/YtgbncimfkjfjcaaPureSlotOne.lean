/-
  The plain law behind the law SlotOne: what its Lean function computes is true; and the law's walk. Conditions: none of its own.
-/
import Derived.Test.YtgbncimfkjfjcaaOneL
namespace Go.Proofs.Ytgbncimfkjfjcaa.Pure
open Go.RowKit Go.Proofs.Ytgbncimfkjfjcaa.SX Go.Proofs.YtgbncimfkjfjcaaW.PrintWords Go.Proofs.YtgbncimfkjfjcaaW.PrintLast Go.Proofs.YtgbncimfkjfjcaaW.PrintMore
theorem one_if {α : Type} {c : Prop} [Decidable c] {g h : Nat → Option α} {r : α} (hc : c) (e : Ev g r) : Ev (fun k => if c then g k else h k) r := Ev.congr (fun _ => if_pos hc) e
theorem one_end (l : List ByteArray) (hl : l.length ≤ 50) (hs : ∀ x ∈ l, x.size < 10000000) :
    Ev (fun k => (slot_One.f k l).bind fun bt128 => ((caravanref1_One.f k l).bind fun t130 => (if (bt128.2 == (decide (t130 ≥ 0))) = true then (if bt128.1 = (mx 0 t130) then ((caravanlaw1_awake.f k).bind fun t131 => (some t131)) else (none)) else (none)))) true := by
  match l, hl, hs with
  | [], _, _ => exact Ev.bind one_nil (Ev.bind rone_nil (one_if (by decide) (one_if (by decide) (Ev.bind awake_ev (Ev.now true)))))
  | s :: r, hl, hs =>
    rw [List.length_cons] at hl
    obtain ⟨n, h1, h2, h3, h4⟩ := slot_one s (hs s List.mem_cons_self)
    obtain ⟨b, hb, hi⟩ := one_ev s r n (by omega) h1 hs
    obtain ⟨c, hc, hj⟩ := rone_ev s r n (by omega) h1 h2 hs
    have he : b = c := by
      have := hi.trans hj.symm
      cases b <;> cases c <;> simp_all
    subst he
    refine Ev.bind hb (Ev.bind hc ?_)
    cases b with
    | true => exact one_if (by show (false == decide ((-1 : Int) ≥ 0)) = true; decide) (one_if (by show (0 : Int) = mx 0 (-1); decide) (Ev.bind awake_ev (Ev.now true)))
    | false =>
      have d : decide (n ≥ 0) = true := decide_eq_true h3
      have m : n = mx 0 n := by unfold mx; split <;> omega
      exact one_if (by show (true == decide (n ≥ 0)) = true; rw [d]; rfl) (one_if m (Ev.bind awake_ev (Ev.now true)))
theorem one_loop (l : List ByteArray) (hl : l.length ≤ 50) : ∀ (d i : Nat), i + d = l.length → (∀ j (hj : j < l.length), j < i → l[j].size ≤ 200) → Ev (fun k => caravanlaw1_SlotOne.l0 k l (i : Int)) true
  | 0, i, h, hs => by
    refine Ev.step (fun k => ?_) (one_end l hl (fun x hx => ?_))
    · rw [caravanlaw1_SlotOne.l0, if_neg (by omega)]
    · obtain ⟨j, hj, rfl⟩ := List.mem_iff_getElem.mp hx
      have := hs j hj (by omega)
      omega
  | d + 1, i, h, hs => by
    have hlt : i < l.length := by omega
    have d1 : (i : Int) < (l.length : Int) := by omega
    have d2 : (0 : Int) ≤ (i : Int) := by omega
    have hg : l[i]?.getD ByteArray.empty = l[i] := by rw [List.getElem?_eq_getElem hlt]; rfl
    by_cases hz : (l[i].size : Int) > 200
    · refine Ev.step (fun k => ?_) (Ev.bind awake_ev (Ev.now true))
      rw [caravanlaw1_SlotOne.l0, if_pos d1, if_pos d2, rdOf_nat, hg, if_pos hz]
    · have ih := one_loop l hl d (i + 1) (by omega) (fun j hj hji => by
        rcases Nat.lt_or_ge j i with h9 | h9
        · exact hs j hj h9
        · obtain rfl : j = i := by omega
          omega)
      refine Ev.step (fun k => ?_) ih
      rw [caravanlaw1_SlotOne.l0, if_pos d1, if_pos d2, rdOf_nat, hg, if_neg hz, w1 (by omega)]
theorem SlotOne (l : List ByteArray) : ∃ k, caravanlaw1_SlotOne.f k l = some true := by
  refine Ev.rounds (r := true) ?_
  by_cases hl : (l.length : Int) > 50
  · refine Ev.congr (fun k => ?_) (Ev.bind awake_ev (Ev.now true))
    show caravanlaw1_SlotOne.f k l = _
    unfold caravanlaw1_SlotOne.f
    rw [if_pos hl]
  · refine Ev.congr (fun k => ?_) (one_loop l (by omega) l.length 0 (by omega) (fun j _ hj => by omega))
    show caravanlaw1_SlotOne.f k l = _
    unfold caravanlaw1_SlotOne.f
    rw [if_neg hl]
    rfl
theorem one_law (W : World) (A0 : Option Addr) (c0 : Nat) (l0 : List ByteArray) (hr0 : Kd.C Kd.string W A0 l0.length l0) (hc0 : l0.length ≤ c0) (_ : c0 ≤ 9223372036854775807) (_ : ∀ x ∈ l0, x.size ≤ 9223372036854775807) :
    Calls Try.prog 6 #[.slice A0 l0.length c0] W fun e w' => e = .returned (.bool true) ∧ Below W.heap.size W w' := by
  obtain ⟨k, hk⟩ := SlotOne l0
  exact caravanlaw1_SlotOne.calls k A0 c0 l0 true W hr0 hc0 hk
end Go.Proofs.Ytgbncimfkjfjcaa.Pure

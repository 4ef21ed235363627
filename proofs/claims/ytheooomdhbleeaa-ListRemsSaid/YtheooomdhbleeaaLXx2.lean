/- The machine side of a law: what Go functions compute, as Lean functions, and the proofs of it. Conditions: none. (Written by wip/myprint.py of this session's repo.) -/
import Derived.Test.YtheooomdhbleeaaLXx0
import Derived.Test.YtheooomdhbleeaaLXx1
namespace Go.Proofs.Ytheooomdhbleeaa.LX
open Go.RowKit Go.Proofs.YtheooomdhbleeaaW.PrintWords Go.Proofs.YtheooomdhbleeaaW.PrintLast Go.Proofs.YtheooomdhbleeaaW.PrintMore
attribute [local go_sem] max2_int min2_int max_two min_two max_three min_three max_four min_four   -- for this text's walks alone
set_option linter.unusedVariables false
set_option linter.unusedSimpArgs false

/-! ### caravanlaw8_ListRems: function 3 -/
mutual
def caravanlaw8_ListRems.l0 : Nat → Int → List ByteArray → ByteArray → Int → Int → Option (Bool)
  | 0, _, _, _, _, _ => none
  | k + 1, x1, x7, x8, x9, x10 => if x10 < (x7.length : Int) then (if 0 ≤ x10 then (if (rdOf ByteArray.empty x7 x10).toList = x8.toList then (caravanlaw8_ListRems.l0 k x1 x7 x8 (wrap64 (x9 + 1)) (wrap64 (x10 + 1))) else (caravanlaw8_ListRems.l0 k x1 x7 x8 x9 (wrap64 (x10 + 1)))) else (none)) else ((list_Rem.f x7 (wrap64 (x1)) x8).bind fun bt150 => (if x1 = 0 then (caravanlaw8_ListRems.j1 k x1 x7 x8 x9 bt150.1 bt150.2 x9) else (caravanlaw8_ListRems.j1 k x1 x7 x8 x9 bt150.1 bt150.2 (mn x9 (mx (wrap64 (x1)) (wrap64 (-(wrap64 (x1)))))))))
def caravanlaw8_ListRems.j1 : Nat → Int → List ByteArray → ByteArray → Int → List ByteArray → Int → Int → Option (Bool)
  | 0, _, _, _, _, _, _, _ => none
  | k + 1, x1, x7, x8, x9, x11, x12, x13 => if x12 = x13 then (caravanlaw8_ListRems.j2 k x1 x7 x8 x9 x11 x13 ((x11.length : Int) != (wrap64 ((x7.length : Int) - x13)))) else (caravanlaw8_ListRems.j2 k x1 x7 x8 x9 x11 x13 true)
def caravanlaw8_ListRems.j2 : Nat → Int → List ByteArray → ByteArray → Int → List ByteArray → Int → Bool → Option (Bool)
  | 0, _, _, _, _, _, _, _ => none
  | k + 1, x1, x7, x8, x9, x11, x13, x73 => if x73 = true then (some false) else (if x1 < 0 then (caravanlaw8_ListRems.j3 k x7 x8 x11 x13 (wrap64 (x9 - x13))) else (caravanlaw8_ListRems.j3 k x7 x8 x11 x13 0))
def caravanlaw8_ListRems.j3 : Nat → List ByteArray → ByteArray → List ByteArray → Int → Int → Option (Bool)
  | 0, _, _, _, _, _ => none
  | k + 1, x7, x8, x11, x13, x14 => caravanlaw8_ListRems.l1 k x7 x8 x11 x13 x14 0 0 0
def caravanlaw8_ListRems.l1 : Nat → List ByteArray → ByteArray → List ByteArray → Int → Int → Int → Int → Int → Option (Bool)
  | 0, _, _, _, _, _, _, _, _ => none
  | k + 1, x7, x8, x11, x13, x14, x15, x16, x17 => if x17 < (x7.length : Int) then (if 0 ≤ x17 then (if (rdOf ByteArray.empty x7 x17).toList = x8.toList then (if (wrap64 (x16 + 1)) > x14 then (caravanlaw8_ListRems.j5 k x7 x8 x11 x13 x14 x15 (wrap64 (x16 + 1)) x17 (decide ((wrap64 (x16 + 1)) ≤ (wrap64 (x14 + x13))))) else (caravanlaw8_ListRems.j5 k x7 x8 x11 x13 x14 x15 (wrap64 (x16 + 1)) x17 false)) else (if x15 ≥ (x11.length : Int) then (some false) else (if 0 ≤ x15 then (if x15 < (x11.length : Int) then (if (rdOf ByteArray.empty x11 x15).toList = (rdOf ByteArray.empty x7 x17).toList then (caravanlaw8_ListRems.l1 k x7 x8 x11 x13 x14 (wrap64 (x15 + 1)) x16 (wrap64 (x17 + 1))) else (some false)) else (none)) else (none)))) else (none)) else (if x15 = (x11.length : Int) then ((caravanlaw8_awake.f k).bind fun t154 => (some t154)) else (some false))
def caravanlaw8_ListRems.j5 : Nat → List ByteArray → ByteArray → List ByteArray → Int → Int → Int → Int → Int → Bool → Option (Bool)
  | 0, _, _, _, _, _, _, _, _, _ => none
  | k + 1, x7, x8, x11, x13, x14, x15, x16, x17, x102 => if x102 = true then (caravanlaw8_ListRems.l1 k x7 x8 x11 x13 x14 x15 x16 (wrap64 (x17 + 1))) else (if x15 ≥ (x11.length : Int) then (some false) else (if 0 ≤ x15 then (if x15 < (x11.length : Int) then (if 0 ≤ x17 then (if x17 < (x7.length : Int) then (if (rdOf ByteArray.empty x11 x15).toList = (rdOf ByteArray.empty x7 x17).toList then (caravanlaw8_ListRems.l1 k x7 x8 x11 x13 x14 (wrap64 (x15 + 1)) x16 (wrap64 (x17 + 1))) else (some false)) else (none)) else (none)) else (none)) else (none)))
end
def caravanlaw8_ListRems.f (k : Nat) (l0 : List Int) (a1 : Int) (a2 : Int) : Option (Bool) := if (l0.length : Int) > 60 then ((caravanlaw8_awake.f k).bind fun t142 => (some t142)) else ((caravanlaw8_letters.f k l0).bind fun t143 => (caravanlaw8_ListRems.l0 k a1 t143 (strOfNums (([(97 + (Int.tmod a2 4)) % 256] : List Int))) 0 0))
theorem caravanlaw8_ListRems.mono_l : ∀ k, (∀ y0 y1 y2 y3 y4, LeO (caravanlaw8_ListRems.l0 k y0 y1 y2 y3 y4) (caravanlaw8_ListRems.l0 (k + 1) y0 y1 y2 y3 y4)) ∧ (∀ y0 y1 y2 y3 y4 y5 y6, LeO (caravanlaw8_ListRems.j1 k y0 y1 y2 y3 y4 y5 y6) (caravanlaw8_ListRems.j1 (k + 1) y0 y1 y2 y3 y4 y5 y6)) ∧ (∀ y0 y1 y2 y3 y4 y5 y6, LeO (caravanlaw8_ListRems.j2 k y0 y1 y2 y3 y4 y5 y6) (caravanlaw8_ListRems.j2 (k + 1) y0 y1 y2 y3 y4 y5 y6)) ∧ (∀ y0 y1 y2 y3 y4, LeO (caravanlaw8_ListRems.j3 k y0 y1 y2 y3 y4) (caravanlaw8_ListRems.j3 (k + 1) y0 y1 y2 y3 y4)) ∧ (∀ y0 y1 y2 y3 y4 y5 y6 y7, LeO (caravanlaw8_ListRems.l1 k y0 y1 y2 y3 y4 y5 y6 y7) (caravanlaw8_ListRems.l1 (k + 1) y0 y1 y2 y3 y4 y5 y6 y7)) ∧ (∀ y0 y1 y2 y3 y4 y5 y6 y7 y8, LeO (caravanlaw8_ListRems.j5 k y0 y1 y2 y3 y4 y5 y6 y7 y8) (caravanlaw8_ListRems.j5 (k + 1) y0 y1 y2 y3 y4 y5 y6 y7 y8))
  | 0 => ⟨fun _ _ _ _ _ r h => by simp [caravanlaw8_ListRems.l0] at h, fun _ _ _ _ _ _ _ r h => by simp [caravanlaw8_ListRems.j1] at h, fun _ _ _ _ _ _ _ r h => by simp [caravanlaw8_ListRems.j2] at h, fun _ _ _ _ _ r h => by simp [caravanlaw8_ListRems.j3] at h, fun _ _ _ _ _ _ _ _ r h => by simp [caravanlaw8_ListRems.l1] at h, fun _ _ _ _ _ _ _ _ _ r h => by simp [caravanlaw8_ListRems.j5] at h⟩
  | k + 1 => by
    obtain ⟨ih0, ih1, ih2, ih3, ih4, ih5⟩ := caravanlaw8_ListRems.mono_l k
    refine ⟨?_, ?_, ?_, ?_, ?_, ?_⟩
    · intro y0 y1 y2 y3 y4
      unfold caravanlaw8_ListRems.l0
      repeat' first
      | (with_reducible exact ih0 _ _ _ _ _)
      | (with_reducible exact ih1 _ _ _ _ _ _ _)
      | (with_reducible exact ih2 _ _ _ _ _ _ _)
      | (with_reducible exact ih3 _ _ _ _ _)
      | (with_reducible exact ih4 _ _ _ _ _ _ _ _)
      | (with_reducible exact ih5 _ _ _ _ _ _ _ _ _)
      | (with_reducible exact caravanlaw8_awake.mono _)
      | (with_reducible exact caravanlaw8_letters.mono _ _)
      | (with_reducible exact LeO.refl _)
      | (with_reducible exact LeO.none _)
      | (with_reducible refine LeO.ite ?_ ?_)
      | (with_reducible refine LeO.bind ?_ (fun _ => ?_))
      | exact ih0 _ _ _ _ _
      | exact ih1 _ _ _ _ _ _ _
      | exact ih2 _ _ _ _ _ _ _
      | exact ih3 _ _ _ _ _
      | exact ih4 _ _ _ _ _ _ _ _
      | exact ih5 _ _ _ _ _ _ _ _ _
      | exact caravanlaw8_awake.mono _
      | exact caravanlaw8_letters.mono _ _
      | exact LeO.none _
      | refine LeO.ite ?_ ?_
      | refine LeO.bind ?_ (fun _ => ?_)
    · intro y0 y1 y2 y3 y4 y5 y6
      unfold caravanlaw8_ListRems.j1
      repeat' first
      | (with_reducible exact ih0 _ _ _ _ _)
      | (with_reducible exact ih1 _ _ _ _ _ _ _)
      | (with_reducible exact ih2 _ _ _ _ _ _ _)
      | (with_reducible exact ih3 _ _ _ _ _)
      | (with_reducible exact ih4 _ _ _ _ _ _ _ _)
      | (with_reducible exact ih5 _ _ _ _ _ _ _ _ _)
      | (with_reducible exact caravanlaw8_awake.mono _)
      | (with_reducible exact caravanlaw8_letters.mono _ _)
      | (with_reducible exact LeO.refl _)
      | (with_reducible exact LeO.none _)
      | (with_reducible refine LeO.ite ?_ ?_)
      | (with_reducible refine LeO.bind ?_ (fun _ => ?_))
      | exact ih0 _ _ _ _ _
      | exact ih1 _ _ _ _ _ _ _
      | exact ih2 _ _ _ _ _ _ _
      | exact ih3 _ _ _ _ _
      | exact ih4 _ _ _ _ _ _ _ _
      | exact ih5 _ _ _ _ _ _ _ _ _
      | exact caravanlaw8_awake.mono _
      | exact caravanlaw8_letters.mono _ _
      | exact LeO.none _
      | refine LeO.ite ?_ ?_
      | refine LeO.bind ?_ (fun _ => ?_)
    · intro y0 y1 y2 y3 y4 y5 y6
      unfold caravanlaw8_ListRems.j2
      repeat' first
      | (with_reducible exact ih0 _ _ _ _ _)
      | (with_reducible exact ih1 _ _ _ _ _ _ _)
      | (with_reducible exact ih2 _ _ _ _ _ _ _)
      | (with_reducible exact ih3 _ _ _ _ _)
      | (with_reducible exact ih4 _ _ _ _ _ _ _ _)
      | (with_reducible exact ih5 _ _ _ _ _ _ _ _ _)
      | (with_reducible exact caravanlaw8_awake.mono _)
      | (with_reducible exact caravanlaw8_letters.mono _ _)
      | (with_reducible exact LeO.refl _)
      | (with_reducible exact LeO.none _)
      | (with_reducible refine LeO.ite ?_ ?_)
      | (with_reducible refine LeO.bind ?_ (fun _ => ?_))
      | exact ih0 _ _ _ _ _
      | exact ih1 _ _ _ _ _ _ _
      | exact ih2 _ _ _ _ _ _ _
      | exact ih3 _ _ _ _ _
      | exact ih4 _ _ _ _ _ _ _ _
      | exact ih5 _ _ _ _ _ _ _ _ _
      | exact caravanlaw8_awake.mono _
      | exact caravanlaw8_letters.mono _ _
      | exact LeO.none _
      | refine LeO.ite ?_ ?_
      | refine LeO.bind ?_ (fun _ => ?_)
    · intro y0 y1 y2 y3 y4
      unfold caravanlaw8_ListRems.j3
      repeat' first
      | (with_reducible exact ih0 _ _ _ _ _)
      | (with_reducible exact ih1 _ _ _ _ _ _ _)
      | (with_reducible exact ih2 _ _ _ _ _ _ _)
      | (with_reducible exact ih3 _ _ _ _ _)
      | (with_reducible exact ih4 _ _ _ _ _ _ _ _)
      | (with_reducible exact ih5 _ _ _ _ _ _ _ _ _)
      | (with_reducible exact caravanlaw8_awake.mono _)
      | (with_reducible exact caravanlaw8_letters.mono _ _)
      | (with_reducible exact LeO.refl _)
      | (with_reducible exact LeO.none _)
      | (with_reducible refine LeO.ite ?_ ?_)
      | (with_reducible refine LeO.bind ?_ (fun _ => ?_))
      | exact ih0 _ _ _ _ _
      | exact ih1 _ _ _ _ _ _ _
      | exact ih2 _ _ _ _ _ _ _
      | exact ih3 _ _ _ _ _
      | exact ih4 _ _ _ _ _ _ _ _
      | exact ih5 _ _ _ _ _ _ _ _ _
      | exact caravanlaw8_awake.mono _
      | exact caravanlaw8_letters.mono _ _
      | exact LeO.none _
      | refine LeO.ite ?_ ?_
      | refine LeO.bind ?_ (fun _ => ?_)
    · intro y0 y1 y2 y3 y4 y5 y6 y7
      unfold caravanlaw8_ListRems.l1
      repeat' first
      | (with_reducible exact ih0 _ _ _ _ _)
      | (with_reducible exact ih1 _ _ _ _ _ _ _)
      | (with_reducible exact ih2 _ _ _ _ _ _ _)
      | (with_reducible exact ih3 _ _ _ _ _)
      | (with_reducible exact ih4 _ _ _ _ _ _ _ _)
      | (with_reducible exact ih5 _ _ _ _ _ _ _ _ _)
      | (with_reducible exact caravanlaw8_awake.mono _)
      | (with_reducible exact caravanlaw8_letters.mono _ _)
      | (with_reducible exact LeO.refl _)
      | (with_reducible exact LeO.none _)
      | (with_reducible refine LeO.ite ?_ ?_)
      | (with_reducible refine LeO.bind ?_ (fun _ => ?_))
      | exact ih0 _ _ _ _ _
      | exact ih1 _ _ _ _ _ _ _
      | exact ih2 _ _ _ _ _ _ _
      | exact ih3 _ _ _ _ _
      | exact ih4 _ _ _ _ _ _ _ _
      | exact ih5 _ _ _ _ _ _ _ _ _
      | exact caravanlaw8_awake.mono _
      | exact caravanlaw8_letters.mono _ _
      | exact LeO.none _
      | refine LeO.ite ?_ ?_
      | refine LeO.bind ?_ (fun _ => ?_)
    · intro y0 y1 y2 y3 y4 y5 y6 y7 y8
      unfold caravanlaw8_ListRems.j5
      repeat' first
      | (with_reducible exact ih0 _ _ _ _ _)
      | (with_reducible exact ih1 _ _ _ _ _ _ _)
      | (with_reducible exact ih2 _ _ _ _ _ _ _)
      | (with_reducible exact ih3 _ _ _ _ _)
      | (with_reducible exact ih4 _ _ _ _ _ _ _ _)
      | (with_reducible exact ih5 _ _ _ _ _ _ _ _ _)
      | (with_reducible exact caravanlaw8_awake.mono _)
      | (with_reducible exact caravanlaw8_letters.mono _ _)
      | (with_reducible exact LeO.refl _)
      | (with_reducible exact LeO.none _)
      | (with_reducible refine LeO.ite ?_ ?_)
      | (with_reducible refine LeO.bind ?_ (fun _ => ?_))
      | exact ih0 _ _ _ _ _
      | exact ih1 _ _ _ _ _ _ _
      | exact ih2 _ _ _ _ _ _ _
      | exact ih3 _ _ _ _ _
      | exact ih4 _ _ _ _ _ _ _ _
      | exact ih5 _ _ _ _ _ _ _ _ _
      | exact caravanlaw8_awake.mono _
      | exact caravanlaw8_letters.mono _ _
      | exact LeO.none _
      | refine LeO.ite ?_ ?_
      | refine LeO.bind ?_ (fun _ => ?_)
theorem caravanlaw8_ListRems.mono : ∀ a0 a1 a2 k, LeO (caravanlaw8_ListRems.f k a0 a1 a2) (caravanlaw8_ListRems.f (k + 1) a0 a1 a2) := by
  intro a0 a1 a2 k
  obtain ⟨ih0, ih1, ih2, ih3, ih4, ih5⟩ := caravanlaw8_ListRems.mono_l k
  unfold caravanlaw8_ListRems.f
  repeat' first
      | (with_reducible exact ih0 _ _ _ _ _)
      | (with_reducible exact ih1 _ _ _ _ _ _ _)
      | (with_reducible exact ih2 _ _ _ _ _ _ _)
      | (with_reducible exact ih3 _ _ _ _ _)
      | (with_reducible exact ih4 _ _ _ _ _ _ _ _)
      | (with_reducible exact ih5 _ _ _ _ _ _ _ _ _)
      | (with_reducible exact caravanlaw8_awake.mono _)
      | (with_reducible exact caravanlaw8_letters.mono _ _)
      | (with_reducible exact LeO.refl _)
      | (with_reducible exact LeO.none _)
      | (with_reducible refine LeO.ite ?_ ?_)
      | (with_reducible refine LeO.bind ?_ (fun _ => ?_))
      | exact ih0 _ _ _ _ _
      | exact ih1 _ _ _ _ _ _ _
      | exact ih2 _ _ _ _ _ _ _
      | exact ih3 _ _ _ _ _
      | exact ih4 _ _ _ _ _ _ _ _
      | exact ih5 _ _ _ _ _ _ _ _ _
      | exact caravanlaw8_awake.mono _
      | exact caravanlaw8_letters.mono _ _
      | exact LeO.none _
      | refine LeO.ite ?_ ?_
      | refine LeO.bind ?_ (fun _ => ?_)
set_option maxHeartbeats 8000000 in
set_option maxRecDepth 100000 in
theorem caravanlaw8_ListRems.calls (k : Nat) (A0 : Option Addr) (c0 : Nat) (l0 : List Int) (a1 : Int) (a2 : Int) (r : Bool) (w : World) (hr0 : Kd.C (Kd.int .u8) w A0 l0.length l0) (hc0 : l0.length ≤ c0) (h : caravanlaw8_ListRems.f k l0 a1 a2 = some r) :
    Calls Try.prog 3 #[.slice A0 l0.length c0, .int .i8 a1, .int .u8 a2] w fun e w' => e = .returned (.bool r) ∧ Below w.heap.size w w' := by
  have HR0 := Aside0.mk hr0
  have HC0 := Aside0.mk hc0
  clear hr0 hc0
  have HB := Aside0.mk (Below.refl w.heap.size w)
  have H : (if (l0.length : Int) > 60 then ((caravanlaw8_awake.f k).bind fun t142 => (some t142)) else ((caravanlaw8_letters.f k l0).bind fun t143 => (caravanlaw8_ListRems.l0 k a1 t143 (strOfNums (([(97 + (Int.tmod a2 4)) % 256] : List Int))) 0 0))) = some r := h
  clear h
  by_cases c4 : (l0.length : Int) > 60
  · rw [if_pos c4] at H
    have c4b0 : decide (60 < (l0.length : Int)) = true := decide_eq_true c4
    have c4b1 : decide (60 < l0.length) = true := decide_eq_true (by omega)
    clear c4
    replace H := Option.bind_eq_some_iff.mp H
    obtain ⟨t142, A50, H⟩ := H
    replace H : (some t142) = some r := H
    have A5 := Aside0.mk A50
    clear A50
    obtain rfl := Option.some.inj H
    go_enter Try.func3, Try.ntmps3
    go_wp2_with (first | (go_at_call 8; (with_reducible refine (caravanlaw8_awake.calls k  t142 _ A5.out).mono ?_); rintro e w6 ⟨rfl, hb⟩; have n0_ := Aside0.mk (below_step (by repeat (first | (with_reducible first | exact HB.out | apply below_alloc | apply pw_below_drewN | apply below_drew1) | exact HB.out)) hb); clear HB; have HB := n0_; clear n0_; (try clear hb); (try clear hb2); (try clear hk); (try clear hi)))
    repeat (go_quiet (first | (go_at_call 8; (with_reducible refine (caravanlaw8_awake.calls k  t142 _ A5.out).mono ?_); rintro e w6 ⟨rfl, hb⟩; have n0_ := Aside0.mk (below_step (by repeat (first | (with_reducible first | exact HB.out | apply below_alloc | apply pw_below_drewN | apply below_drew1) | exact HB.out)) hb); clear HB; have HB := n0_; clear n0_; (try clear hb); (try clear hb2); (try clear hk); (try clear hi))); try go_wp2_with (first | (go_at_call 8; (with_reducible refine (caravanlaw8_awake.calls k  t142 _ A5.out).mono ?_); rintro e w6 ⟨rfl, hb⟩; have n0_ := Aside0.mk (below_step (by repeat (first | (with_reducible first | exact HB.out | apply below_alloc | apply pw_below_drewN | apply below_drew1) | exact HB.out)) hb); clear HB; have HB := n0_; clear n0_; (try clear hb); (try clear hb2); (try clear hk); (try clear hi))))
    go_ret
    exact ⟨by first | rfl | (simp [errW_none, errW_some] <;> rfl) | (simp [*, errW_none, errW_some] <;> rfl), by repeat (first | (with_reducible first | exact HB.out | apply below_alloc | apply pw_below_drewN | apply below_drew1) | exact HB.out)⟩
  · rw [if_neg c4] at H
    have c4b0 : decide (60 < (l0.length : Int)) = false := decide_eq_false c4
    have c4b1 : decide (60 < l0.length) = false := decide_eq_false (by omega)
    clear c4
    replace H := Option.bind_eq_some_iff.mp H
    obtain ⟨t143, A70, H⟩ := H
    replace H : (caravanlaw8_ListRems.l0 k a1 t143 (strOfNums (([(97 + (Int.tmod a2 4)) % 256] : List Int))) 0 0) = some r := H
    have A7 := Aside0.mk A70
    clear A70
    obtain ⟨y146, hy146⟩ : ∃ y_ : List Int, y_ = (([(97 + (Int.tmod a2 4)) % 256] : List Int)) := ⟨_, rfl⟩
    replace H : (caravanlaw8_ListRems.l0 k a1 t143 (strOfNums y146) 0 0) = some r := by first | (rw [hy146]; with_reducible exact H) | (have H2_ := (Option.bind_some _ _).symm.trans H; rw [hy146]; with_reducible exact H2_) | (have H2_ := (Option.bind_some _ _).symm.trans H; with_reducible exact H2_) | with_reducible exact H | (rw [hy146]; exact H) | exact H
    have Ny146 := Aside0.mk hy146
    clear hy146
    have H' := Aside0.mk H
    clear H
    go_enter Try.func3, Try.ntmps3
    go_wp2_with (first | (go_at_call 9; (with_reducible refine (caravanlaw8_letters.calls k _ _ l0 t143 _ ?side1 ?side2 A7.out).mono ?_); (case side1 => repeat (first | exact HR0.out | (with_reducible refine Kd.C_alloc ?_ _) | (with_reducible refine Kd.C_drewN ?_ _) | (with_reducible refine Kd.C_drew ?_))); (case side2 => exact HC0.out); rintro e w8 ⟨v144, rfl, ho0, hb⟩; have n0_ := Aside0.mk (Kd.R_lower ho0 (below_size (by repeat (first | (with_reducible first | exact HB.out | apply below_alloc | apply pw_below_drewN | apply below_drew1) | exact HB.out)))); have n1_ := Aside0.mk (below_step (by repeat (first | (with_reducible first | exact HB.out | apply below_alloc | apply pw_below_drewN | apply below_drew1) | exact HB.out)) hb); clear HB; have HO145 := n0_; have HB := n1_; clear n0_ n1_; (try clear hb); (try clear hb2); (try clear hk); (try clear hi); (try clear ho0)) | ((with_reducible refine gate_dst (N := 27) rfl ?_); (try (refine gate_guard (by rfl) ?_; dsimp only)); refine Kd.R_lit (Kd.int .u8) _ 5 ?hg (N := 27) ?hd (xs := ([(97 + (Int.tmod a2 4)) % 256] : List Int)) (inner := [.int .u8 ((97 + (Int.tmod a2 4)) % 256)]) (ok := fun _ => True) (okp := fun _ => True) ?hr ?hp (fun _ hk => hk) trivial (Below.refl _ _) (Nat.le_refl _) (by simp) ?_; (case hd => rfl); (case hg => rfl); (case hr => first | (go_simp; done) | (go_simp; rfl)); (case hp => exact (Reps.one (show Kd.M (Kd.int .u8) _ _ _ ((97 + (Int.tmod a2 4)) % 256) [.int .u8 ((97 + (Int.tmod a2 4)) % 256)] from rfl) (Reps.none _ _))); intro v147 w9 ho10 hb hg_ hnew_; clear hg_ hnew_; (first | rw [← Ny146.out] at ho10 | (simp only [Int.reduceToNat] at ho10; rw [← Ny146.out] at ho10)); have n0_ := Aside0.mk (Kd.R_below (by (with_reducible repeat (first | apply Kd.R_alloc | apply Kd.R_drewN | apply Kd.R_drew)); exact HO145.out) hb); have n1_ := Aside0.mk (Kd.R_lower ho10 (below_size (by repeat (first | (with_reducible first | exact HB.out | apply below_alloc | apply pw_below_drewN | apply below_drew1) | exact HB.out)))); have n2_ := Aside0.mk (below_step (by repeat (first | (with_reducible first | exact HB.out | apply below_alloc | apply pw_below_drewN | apply below_drew1) | exact HB.out)) hb); clear HO145; clear HB; have HO145 := n0_; have HO148 := n1_; have HB := n2_; clear n0_ n1_ n2_; clear hb ho10; have hcv11 := own_string (P := Try.prog) Try.underlying22 Try.underlying5 Try.underlying9 (Kd.own_of_R HO148.out)))
    repeat (go_quiet (first | (go_at_call 9; (with_reducible refine (caravanlaw8_letters.calls k _ _ l0 t143 _ ?side1 ?side2 A7.out).mono ?_); (case side1 => repeat (first | exact HR0.out | (with_reducible refine Kd.C_alloc ?_ _) | (with_reducible refine Kd.C_drewN ?_ _) | (with_reducible refine Kd.C_drew ?_))); (case side2 => exact HC0.out); rintro e w8 ⟨v144, rfl, ho0, hb⟩; have n0_ := Aside0.mk (Kd.R_lower ho0 (below_size (by repeat (first | (with_reducible first | exact HB.out | apply below_alloc | apply pw_below_drewN | apply below_drew1) | exact HB.out)))); have n1_ := Aside0.mk (below_step (by repeat (first | (with_reducible first | exact HB.out | apply below_alloc | apply pw_below_drewN | apply below_drew1) | exact HB.out)) hb); clear HB; have HO145 := n0_; have HB := n1_; clear n0_ n1_; (try clear hb); (try clear hb2); (try clear hk); (try clear hi); (try clear ho0)) | ((with_reducible refine gate_dst (N := 27) rfl ?_); (try (refine gate_guard (by rfl) ?_; dsimp only)); refine Kd.R_lit (Kd.int .u8) _ 5 ?hg (N := 27) ?hd (xs := ([(97 + (Int.tmod a2 4)) % 256] : List Int)) (inner := [.int .u8 ((97 + (Int.tmod a2 4)) % 256)]) (ok := fun _ => True) (okp := fun _ => True) ?hr ?hp (fun _ hk => hk) trivial (Below.refl _ _) (Nat.le_refl _) (by simp) ?_; (case hd => rfl); (case hg => rfl); (case hr => first | (go_simp; done) | (go_simp; rfl)); (case hp => exact (Reps.one (show Kd.M (Kd.int .u8) _ _ _ ((97 + (Int.tmod a2 4)) % 256) [.int .u8 ((97 + (Int.tmod a2 4)) % 256)] from rfl) (Reps.none _ _))); intro v147 w9 ho10 hb hg_ hnew_; clear hg_ hnew_; (first | rw [← Ny146.out] at ho10 | (simp only [Int.reduceToNat] at ho10; rw [← Ny146.out] at ho10)); have n0_ := Aside0.mk (Kd.R_below (by (with_reducible repeat (first | apply Kd.R_alloc | apply Kd.R_drewN | apply Kd.R_drew)); exact HO145.out) hb); have n1_ := Aside0.mk (Kd.R_lower ho10 (below_size (by repeat (first | (with_reducible first | exact HB.out | apply below_alloc | apply pw_below_drewN | apply below_drew1) | exact HB.out)))); have n2_ := Aside0.mk (below_step (by repeat (first | (with_reducible first | exact HB.out | apply below_alloc | apply pw_below_drewN | apply below_drew1) | exact HB.out)) hb); clear HO145; clear HB; have HO145 := n0_; have HO148 := n1_; have HB := n2_; clear n0_ n1_ n2_; clear hb ho10; have hcv11 := own_string (P := Try.prog) Try.underlying22 Try.underlying5 Try.underlying9 (Kd.own_of_R HO148.out))); try go_wp2_with (first | (go_at_call 9; (with_reducible refine (caravanlaw8_letters.calls k _ _ l0 t143 _ ?side1 ?side2 A7.out).mono ?_); (case side1 => repeat (first | exact HR0.out | (with_reducible refine Kd.C_alloc ?_ _) | (with_reducible refine Kd.C_drewN ?_ _) | (with_reducible refine Kd.C_drew ?_))); (case side2 => exact HC0.out); rintro e w8 ⟨v144, rfl, ho0, hb⟩; have n0_ := Aside0.mk (Kd.R_lower ho0 (below_size (by repeat (first | (with_reducible first | exact HB.out | apply below_alloc | apply pw_below_drewN | apply below_drew1) | exact HB.out)))); have n1_ := Aside0.mk (below_step (by repeat (first | (with_reducible first | exact HB.out | apply below_alloc | apply pw_below_drewN | apply below_drew1) | exact HB.out)) hb); clear HB; have HO145 := n0_; have HB := n1_; clear n0_ n1_; (try clear hb); (try clear hb2); (try clear hk); (try clear hi); (try clear ho0)) | ((with_reducible refine gate_dst (N := 27) rfl ?_); (try (refine gate_guard (by rfl) ?_; dsimp only)); refine Kd.R_lit (Kd.int .u8) _ 5 ?hg (N := 27) ?hd (xs := ([(97 + (Int.tmod a2 4)) % 256] : List Int)) (inner := [.int .u8 ((97 + (Int.tmod a2 4)) % 256)]) (ok := fun _ => True) (okp := fun _ => True) ?hr ?hp (fun _ hk => hk) trivial (Below.refl _ _) (Nat.le_refl _) (by simp) ?_; (case hd => rfl); (case hg => rfl); (case hr => first | (go_simp; done) | (go_simp; rfl)); (case hp => exact (Reps.one (show Kd.M (Kd.int .u8) _ _ _ ((97 + (Int.tmod a2 4)) % 256) [.int .u8 ((97 + (Int.tmod a2 4)) % 256)] from rfl) (Reps.none _ _))); intro v147 w9 ho10 hb hg_ hnew_; clear hg_ hnew_; (first | rw [← Ny146.out] at ho10 | (simp only [Int.reduceToNat] at ho10; rw [← Ny146.out] at ho10)); have n0_ := Aside0.mk (Kd.R_below (by (with_reducible repeat (first | apply Kd.R_alloc | apply Kd.R_drewN | apply Kd.R_drew)); exact HO145.out) hb); have n1_ := Aside0.mk (Kd.R_lower ho10 (below_size (by repeat (first | (with_reducible first | exact HB.out | apply below_alloc | apply pw_below_drewN | apply below_drew1) | exact HB.out)))); have n2_ := Aside0.mk (below_step (by repeat (first | (with_reducible first | exact HB.out | apply below_alloc | apply pw_below_drewN | apply below_drew1) | exact HB.out)) hb); clear HO145; clear HB; have HO145 := n0_; have HO148 := n1_; have HB := n2_; clear n0_ n1_ n2_; clear hb ho10; have hcv11 := own_string (P := Try.prog) Try.underlying22 Try.underlying5 Try.underlying9 (Kd.own_of_R HO148.out))))
    go_loopg [9, 10] k (fun kq v9 v10 w' => ∃ (x9_1 : Int) (x10_1 : Int), v9 = .int .i64 x9_1 ∧ v10 = .int .i64 x10_1 ∧ Aside0 (caravanlaw8_ListRems.l0 kq a1 t143 (strOfNums y146) x9_1 x10_1 = some r) ∧ Aside0 (kq ≤ k) ∧ Aside0 (Kd.R Kd.string 9 w' w.heap.size (fun _ => True) v144 t143) ∧ Aside0 (Below w.heap.size w w'))
    case atStart => exact ⟨(0), (0), (by first | rfl | (simp; done) | (simp [*]; done)), (by first | rfl | (simp; done) | (simp [*]; done)), H', ⟨Nat.le_refl _⟩, ⟨by (with_reducible repeat (first | apply Kd.R_alloc | apply Kd.R_drewN | apply Kd.R_drew)); exact HO145.out⟩, ⟨by repeat (first | (with_reducible first | exact HB.out | apply below_alloc | apply pw_below_drewN | apply below_drew1) | exact HB.out)⟩⟩
    case round =>
      clear H'
      try clear hcv1
      try clear p2
      try clear c3
      try clear c4
      try clear c4b0
      try clear c4b1
      try clear hcv11
      obtain ⟨x9_1, x10_1, rfl, rfl, HA, HK1, HO_7, HB⟩ := hrel
      cases gk with
      | zero => exact absurd HA.out (by simp [caravanlaw8_ListRems.l0])
      | succ k1 =>
        have H := HA.out
        clear HA
        simp only [caravanlaw8_ListRems.l0] at H
        by_cases c12 : x10_1 < (t143.length : Int)
        · rw [if_pos c12] at H
          have c12b0 : decide (x10_1 < (t143.length : Int)) = true := decide_eq_true c12
          clear c12
          by_cases c13 : 0 ≤ x10_1
          · rw [if_pos c13] at H
            have c13b0 : decide (0 ≤ x10_1) = true := decide_eq_true c13
            clear c13
            by_cases c14 : (rdOf ByteArray.empty t143 x10_1).toList = (strOfNums y146).toList
            · rw [if_pos c14] at H
              have c14b0 : ((rdOf ByteArray.empty t143 x10_1).toList == (strOfNums y146).toList) = true := beq_iff_eq.mpr c14
              have c14b1 : ((rdOf ByteArray.empty t143 x10_1).toList != (strOfNums y146).toList) = false := bne_eq_false_iff_eq.mpr c14
              clear c14
              have H' := Aside0.mk H
              clear H
              obtain ⟨Ao15, co15, eo15⟩ := Kd.R_slice HO_7.out
              subst eo15
              have p149 : 0 ≤ (x10_1 : Int) := of_decide_eq_true (by first | (with_reducible assumption) | assumption)
              have q149 : x10_1 < (t143.length : Int) := of_decide_eq_true (by first | (with_reducible assumption) | assumption)
              obtain ⟨ad149, e149, hx149_0⟩ := Kd.at_string (Kd.R_reads' HO_7.out).2.2 x10_1 p149 q149
              cases e149
              replace p149 := eq_true p149
              replace q149 := eq_true q149
              go_wp2
              repeat (go_quiet (fail); try go_wp2)
              go_roundg k1
              case measure => have := HK1.out; omega
              case rel => exact ⟨(wrap64 (x9_1 + 1)), (wrap64 (x10_1 + 1)), (by first | rfl | (simp; done) | (simp [*]; done)), (by first | rfl | (simp; done) | (simp [*]; done)), H', ⟨by have := HK1.out; omega⟩, ⟨by (with_reducible repeat (first | apply Kd.R_alloc | apply Kd.R_drewN | apply Kd.R_drew)); exact HO_7.out⟩, ⟨by repeat (first | (with_reducible first | exact HB.out | apply below_alloc | apply pw_below_drewN | apply below_drew1) | exact HB.out)⟩⟩
            · rw [if_neg c14] at H
              have c14b0 : ((rdOf ByteArray.empty t143 x10_1).toList == (strOfNums y146).toList) = false := beq_eq_false_iff_ne.mpr c14
              have c14b1 : ((rdOf ByteArray.empty t143 x10_1).toList != (strOfNums y146).toList) = true := bne_iff_ne.mpr c14
              have H' := Aside0.mk H
              clear H
              obtain ⟨Ao16, co16, eo16⟩ := Kd.R_slice HO_7.out
              subst eo16
              have p149 : 0 ≤ (x10_1 : Int) := of_decide_eq_true (by first | (with_reducible assumption) | assumption)
              have q149 : x10_1 < (t143.length : Int) := of_decide_eq_true (by first | (with_reducible assumption) | assumption)
              obtain ⟨ad149, e149, hx149_0⟩ := Kd.at_string (Kd.R_reads' HO_7.out).2.2 x10_1 p149 q149
              cases e149
              replace p149 := eq_true p149
              replace q149 := eq_true q149
              go_wp2
              repeat (go_quiet (fail); try go_wp2)
              go_roundg k1
              case measure => have := HK1.out; omega
              case rel => exact ⟨(x9_1), (wrap64 (x10_1 + 1)), (by first | rfl | (simp; done) | (simp [*]; done)), (by first | rfl | (simp; done) | (simp [*]; done)), H', ⟨by have := HK1.out; omega⟩, ⟨by (with_reducible repeat (first | apply Kd.R_alloc | apply Kd.R_drewN | apply Kd.R_drew)); exact HO_7.out⟩, ⟨by repeat (first | (with_reducible first | exact HB.out | apply below_alloc | apply pw_below_drewN | apply below_drew1) | exact HB.out)⟩⟩
          · rw [if_neg c13] at H
            exact absurd H (by simp)
        · rw [if_neg c12] at H
          have c12b0 : decide (x10_1 < (t143.length : Int)) = false := decide_eq_false c12
          clear c12
          replace H := Option.bind_eq_some_iff.mp H
          obtain ⟨⟨t150, t151⟩, A170, H⟩ := H
          replace H : (if a1 = 0 then (caravanlaw8_ListRems.j1 k1 a1 t143 (strOfNums y146) x9_1 t150 t151 x9_1) else (caravanlaw8_ListRems.j1 k1 a1 t143 (strOfNums y146) x9_1 t150 t151 (mn x9_1 (mx (wrap64 (a1)) (wrap64 (-(wrap64 (a1)))))))) = some r := H
          have A17 := Aside0.mk A170
          clear A170
          have HC18 := Aside0.mk H
          clear H
          obtain ⟨Ao19, co19, eo19⟩ := Kd.R_slice HO_7.out
          subst eo19
          go_upto_if 53 with (first | (go_at_call 10; (with_reducible refine (list_Rem.calls _ _ t143 (wrap64 (a1)) (strOfNums y146) t150 t151 _ ?side1 ?side2 A17.out).mono ?_); (case side1 => repeat (first | exact (Kd.R_reads' HO_7.out).2.2 | (with_reducible refine Kd.C_alloc ?_ _) | (with_reducible refine Kd.C_drewN ?_ _) | (with_reducible refine Kd.C_drew ?_))); (case side2 => exact (Kd.R_reads' HO_7.out).2.1); rintro e w20 ⟨v152, rfl, ho0, hb⟩; have n0_ := Aside0.mk (Kd.R_elder' (by (with_reducible repeat (first | apply Kd.R_alloc | apply Kd.R_drewN | apply Kd.R_drew)); exact HO_7.out) (Kd.R_base ho0) hb); have n1_ := Aside0.mk (Kd.R_lower (Kd.R_new' ho0 (Kd.R_lt (by (with_reducible repeat (first | apply Kd.R_alloc | apply Kd.R_drewN | apply Kd.R_drew)); exact HO_7.out))) (below_size (by repeat (first | (with_reducible first | exact HB.out | apply below_alloc | apply pw_below_drewN | apply below_drew1) | exact HB.out)))); have n2_ := Aside0.mk (below_step (by repeat (first | (with_reducible first | exact HB.out | apply below_alloc | apply pw_below_drewN | apply below_drew1) | exact HB.out)) hb); clear HO_7; clear HB; have HO_7 := n0_; have HO153 := n1_; have HB := n2_; clear n0_ n1_ n2_; (try clear hb); (try clear hb2); (try clear hk); (try clear hi); (try clear ho0)))
          repeat (go_quiet (first | (go_at_call 10; (with_reducible refine (list_Rem.calls _ _ t143 (wrap64 (a1)) (strOfNums y146) t150 t151 _ ?side1 ?side2 A17.out).mono ?_); (case side1 => repeat (first | exact (Kd.R_reads' HO_7.out).2.2 | (with_reducible refine Kd.C_alloc ?_ _) | (with_reducible refine Kd.C_drewN ?_ _) | (with_reducible refine Kd.C_drew ?_))); (case side2 => exact (Kd.R_reads' HO_7.out).2.1); rintro e w20 ⟨v152, rfl, ho0, hb⟩; have n0_ := Aside0.mk (Kd.R_elder' (by (with_reducible repeat (first | apply Kd.R_alloc | apply Kd.R_drewN | apply Kd.R_drew)); exact HO_7.out) (Kd.R_base ho0) hb); have n1_ := Aside0.mk (Kd.R_lower (Kd.R_new' ho0 (Kd.R_lt (by (with_reducible repeat (first | apply Kd.R_alloc | apply Kd.R_drewN | apply Kd.R_drew)); exact HO_7.out))) (below_size (by repeat (first | (with_reducible first | exact HB.out | apply below_alloc | apply pw_below_drewN | apply below_drew1) | exact HB.out)))); have n2_ := Aside0.mk (below_step (by repeat (first | (with_reducible first | exact HB.out | apply below_alloc | apply pw_below_drewN | apply below_drew1) | exact HB.out)) hb); clear HO_7; clear HB; have HO_7 := n0_; have HO153 := n1_; have HB := n2_; clear n0_ n1_ n2_; (try clear hb); (try clear hb2); (try clear hk); (try clear hi); (try clear ho0))); go_upto_if 53 with (first | (go_at_call 10; (with_reducible refine (list_Rem.calls _ _ t143 (wrap64 (a1)) (strOfNums y146) t150 t151 _ ?side1 ?side2 A17.out).mono ?_); (case side1 => repeat (first | exact (Kd.R_reads' HO_7.out).2.2 | (with_reducible refine Kd.C_alloc ?_ _) | (with_reducible refine Kd.C_drewN ?_ _) | (with_reducible refine Kd.C_drew ?_))); (case side2 => exact (Kd.R_reads' HO_7.out).2.1); rintro e w20 ⟨v152, rfl, ho0, hb⟩; have n0_ := Aside0.mk (Kd.R_elder' (by (with_reducible repeat (first | apply Kd.R_alloc | apply Kd.R_drewN | apply Kd.R_drew)); exact HO_7.out) (Kd.R_base ho0) hb); have n1_ := Aside0.mk (Kd.R_lower (Kd.R_new' ho0 (Kd.R_lt (by (with_reducible repeat (first | apply Kd.R_alloc | apply Kd.R_drewN | apply Kd.R_drew)); exact HO_7.out))) (below_size (by repeat (first | (with_reducible first | exact HB.out | apply below_alloc | apply pw_below_drewN | apply below_drew1) | exact HB.out)))); have n2_ := Aside0.mk (below_step (by repeat (first | (with_reducible first | exact HB.out | apply below_alloc | apply pw_below_drewN | apply below_drew1) | exact HB.out)) hb); clear HO_7; clear HB; have HO_7 := n0_; have HO153 := n1_; have HB := n2_; clear n0_ n1_ n2_; (try clear hb); (try clear hb2); (try clear hk); (try clear hi); (try clear ho0))))
          (try simp only [Act.put, List.setIfInBounds_toArray, List.set_cons_zero, List.set_cons_succ])
          go_cut [13] (fun v13 wc => ∃ (kq : Nat) (x13_17 : Int), v13 = .int .i64 x13_17 ∧ Aside0 (caravanlaw8_ListRems.j1 kq a1 t143 (strOfNums y146) x9_1 t150 t151 x13_17 = some r) ∧ Aside0 (kq ≤ k1) ∧ Aside0 (Kd.R Kd.string 9 wc w.heap.size (fun k_ => some k_ ≠ (v152 : Value).ownBlock) (.slice Ao19 t143.length co19) t143) ∧ Aside0 (Kd.R Kd.string 9 wc w.heap.size (fun k_ => some k_ ≠ ((.slice Ao19 t143.length co19) : Value).ownBlock) v152 t150) ∧ Aside0 (Below w.heap.size w wc))
          case first =>
            have H := HC18.out
            clear HC18
            by_cases c21 : a1 = 0
            · rw [if_pos c21] at H
              have c21b0 : (a1 == 0) = true := beq_iff_eq.mpr c21
              have c21b1 : (a1 != 0) = false := bne_eq_false_iff_eq.mpr c21
              clear c21
              (first | rw [c21b0] | (simp only [i64_w, i32_w]; rw [c21b0]) | skip)
              have H' := Aside0.mk H
              clear H
              go_wp2
              repeat (go_quiet (fail); try go_wp2)
              go_meet
              case rel => exact ⟨_, (x9_1), (by first | rfl | (simp; done) | (simp [*]; done)), H', ⟨by have := HK1.out; first | omega | exact Nat.le_refl _⟩, ⟨by (with_reducible repeat (first | apply Kd.R_alloc | apply Kd.R_drewN | apply Kd.R_drew)); exact Kd.R_mono HO_7.out (fun _ hk => hk.2)⟩, ⟨by (with_reducible repeat (first | apply Kd.R_alloc | apply Kd.R_drewN | apply Kd.R_drew)); exact Kd.R_mono HO153.out (fun _ hk => hk.2)⟩, ⟨by repeat (first | (with_reducible first | exact HB.out | apply below_alloc | apply pw_below_drewN | apply below_drew1) | exact HB.out)⟩⟩
            · rw [if_neg c21] at H
              have c21b0 : (a1 == 0) = false := beq_eq_false_iff_ne.mpr c21
              have c21b1 : (a1 != 0) = true := bne_iff_ne.mpr c21
              (first | rw [c21b0] | (simp only [i64_w, i32_w]; rw [c21b0]) | skip)
              obtain ⟨ji22, hji22⟩ : ∃ j_ : Int, (mx (wrap64 (a1)) (wrap64 (-(wrap64 (a1))))) = j_ := ⟨_, rfl⟩
              replace H : (caravanlaw8_ListRems.j1 k1 a1 t143 (strOfNums y146) x9_1 t150 t151 (mn x9_1 (ji22))) = some r := by first | (rw [hji22] at H; exact H) | (simp only [hji22] at H ⊢; exact H)
              have hji22_ : (if (wrap64 (a1)) < (wrap64 (-(wrap64 (a1)))) then (wrap64 (-(wrap64 (a1)))) else (wrap64 (a1))) = ji22 := hji22
              obtain ⟨ji23, hji23⟩ : ∃ j_ : Int, (mn x9_1 (ji22)) = j_ := ⟨_, rfl⟩
              replace H : (caravanlaw8_ListRems.j1 k1 a1 t143 (strOfNums y146) x9_1 t150 t151 ji23) = some r := by first | (rw [hji23] at H; exact H) | (simp only [hji23] at H ⊢; exact H)
              have hji23_ : (if (ji22) < x9_1 then (ji22) else x9_1) = ji23 := hji23
              have H' := Aside0.mk H
              clear H
              go_wp2
              repeat (go_quiet (fail); try go_wp2)
              go_meet
              case rel => exact ⟨_, (ji23), (by first | rfl | (simp; done) | (simp only [← hji23] <;> (first | rfl | simp)) | (simp [*]; done)), H', ⟨by have := HK1.out; first | omega | exact Nat.le_refl _⟩, ⟨by (with_reducible repeat (first | apply Kd.R_alloc | apply Kd.R_drewN | apply Kd.R_drew)); exact Kd.R_mono HO_7.out (fun _ hk => hk.2)⟩, ⟨by (with_reducible repeat (first | apply Kd.R_alloc | apply Kd.R_drewN | apply Kd.R_drew)); exact Kd.R_mono HO153.out (fun _ hk => hk.2)⟩, ⟨by repeat (first | (with_reducible first | exact HB.out | apply below_alloc | apply pw_below_drewN | apply below_drew1) | exact HB.out)⟩⟩
          case rest =>
            clear HC18
            try clear c1
            try clear p1
            try clear q1
            try clear hx1
            try clear hcv1
            try clear c2
            try clear p2
            try clear c3
            try clear c4
            try clear c4b0
            try clear c4b1
            try clear p6
            try clear hcv11
            try clear c12
            try clear c12b0
            try clear c13
            try clear c13b0
            try clear c14
            try clear c14b0
            try clear c14b1
            try clear p14
            try clear q14
            try clear hx14
            try clear c21
            try clear c21b0
            try clear c21b1
            try clear hx149_0
            try clear p149
            try clear p2
            try clear q149
            obtain ⟨kq, x13_17, rfl, HA, HJ17, HO_7, HO_11, HB⟩ := hcut
            cases kq with
            | zero => exact absurd HA.out (by simp [caravanlaw8_ListRems.j1])
            | succ kj17 =>
              have H := HA.out
              clear HA
              simp only [caravanlaw8_ListRems.j1] at H
              have HC24 := Aside0.mk H
              clear H
              go_upto_region 15 with (fail)
              repeat (go_quiet (fail); go_upto_region 15 with (fail))
              go_cut [73] (fun v73 wc => ∃ (kq : Nat) (x73_23 : Bool), v73 = .bool x73_23 ∧ Aside0 (caravanlaw8_ListRems.j2 kq a1 t143 (strOfNums y146) x9_1 t150 x13_17 x73_23 = some r) ∧ Aside0 (kq ≤ kj17) ∧ Aside0 (Kd.R Kd.string 9 wc w.heap.size (fun k_ => some k_ ≠ (v152 : Value).ownBlock) (.slice Ao19 t143.length co19) t143) ∧ Aside0 (Kd.R Kd.string 9 wc w.heap.size (fun k_ => some k_ ≠ ((.slice Ao19 t143.length co19) : Value).ownBlock) v152 t150) ∧ Aside0 (Below w.heap.size w wc))
              case first =>
                have H := HC24.out
                clear HC24
                by_cases c25 : t151 = x13_17
                · rw [if_pos c25] at H
                  have c25b0 : (t151 == x13_17) = true := beq_iff_eq.mpr c25
                  have c25b1 : (t151 != x13_17) = false := bne_eq_false_iff_eq.mpr c25
                  clear c25
                  (first | rw [c25b0] | (simp only [i64_w, i32_w]; rw [c25b0]) | skip)
                  have H' := Aside0.mk H
                  clear H
                  obtain ⟨Ao26, co26, eo26⟩ := Kd.R_slice HO_11.out
                  subst eo26
                  go_wp2
                  repeat (go_quiet (fail); try go_wp2)
                  go_meet
                  case rel => exact ⟨_, (((t150.length : Int) != (wrap64 ((t143.length : Int) - x13_17)))), (by first | rfl | (simp; done) | (simp [*]; done)), H', ⟨by have := HK1.out; have := HJ17.out; first | omega | exact Nat.le_refl _⟩, ⟨by (with_reducible repeat (first | apply Kd.R_alloc | apply Kd.R_drewN | apply Kd.R_drew)); exact HO_7.out⟩, ⟨by (with_reducible repeat (first | apply Kd.R_alloc | apply Kd.R_drewN | apply Kd.R_drew)); exact HO_11.out⟩, ⟨by repeat (first | (with_reducible first | exact HB.out | apply below_alloc | apply pw_below_drewN | apply below_drew1) | exact HB.out)⟩⟩
                · rw [if_neg c25] at H
                  have c25b0 : (t151 == x13_17) = false := beq_eq_false_iff_ne.mpr c25
                  have c25b1 : (t151 != x13_17) = true := bne_iff_ne.mpr c25
                  (first | rw [c25b0] | (simp only [i64_w, i32_w]; rw [c25b0]) | skip)
                  have H' := Aside0.mk H
                  clear H
                  go_wp2
                  repeat (go_quiet (fail); try go_wp2)
                  go_meet
                  case rel => exact ⟨_, (true), (by first | rfl | (simp; done) | (simp [*]; done)), H', ⟨by have := HK1.out; have := HJ17.out; first | omega | exact Nat.le_refl _⟩, ⟨by (with_reducible repeat (first | apply Kd.R_alloc | apply Kd.R_drewN | apply Kd.R_drew)); exact HO_7.out⟩, ⟨by (with_reducible repeat (first | apply Kd.R_alloc | apply Kd.R_drewN | apply Kd.R_drew)); exact HO_11.out⟩, ⟨by repeat (first | (with_reducible first | exact HB.out | apply below_alloc | apply pw_below_drewN | apply below_drew1) | exact HB.out)⟩⟩
              case rest =>
                clear HC24
                try clear c1
                try clear p1
                try clear q1
                try clear hx1
                try clear hcv1
                try clear c2
                try clear p2
                try clear c3
                try clear c4
                try clear c4b0
                try clear c4b1
                try clear p6
                try clear hcv11
                try clear c12
                try clear c12b0
                try clear c13
                try clear c13b0
                try clear c14
                try clear c14b0
                try clear c14b1
                try clear p14
                try clear q14
                try clear hx14
                try clear c21
                try clear c21b0
                try clear c21b1
                try clear c25
                try clear c25b0
                try clear c25b1
                try clear hx149_0
                try clear p1
                try clear p14
                try clear p149
                try clear p2
                try clear p6
                try clear q1
                try clear q14
                try clear q149
                obtain ⟨kq, x73_23, rfl, HA, HJ23, HO_7, HO_11, HB⟩ := hcut
                cases kq with
                | zero => exact absurd HA.out (by simp [caravanlaw8_ListRems.j2])
                | succ kj23 =>
                  have H := HA.out
                  clear HA
                  simp only [caravanlaw8_ListRems.j2] at H
                  by_cases c27 : x73_23 = true
                  · subst c27
                    have H1 : (some false) = some r := by rw [if_pos rfl] at H; exact H
                    clear H
                    have H := H1
                    clear H1
                    obtain rfl := Option.some.inj H
                    go_wp2
                    repeat (go_quiet (fail); try go_wp2)
                    go_ret
                    exact ⟨by first | rfl | (simp [errW_none, errW_some] <;> rfl) | (simp [*, errW_none, errW_some] <;> rfl), by repeat (first | (with_reducible first | exact HB.out | apply below_alloc | apply pw_below_drewN | apply below_drew1) | exact HB.out)⟩
                  · replace c27 := Bool.eq_false_iff.mpr c27
                    subst c27
                    have H1 : (if a1 < 0 then (caravanlaw8_ListRems.j3 kj23 t143 (strOfNums y146) t150 x13_17 (wrap64 (x9_1 - x13_17))) else (caravanlaw8_ListRems.j3 kj23 t143 (strOfNums y146) t150 x13_17 0)) = some r := by rw [if_neg (show ¬ (false = true) by decide)] at H; exact H
                    clear H
                    have H := H1
                    clear H1
                    have HC28 := Aside0.mk H
                    clear H
                    go_upto_if 75 with (fail)
                    repeat (go_quiet (fail); go_upto_if 75 with (fail))
                    go_cut [14] (fun v14 wc => ∃ (kq : Nat) (x14_27 : Int), v14 = .int .i64 x14_27 ∧ Aside0 (caravanlaw8_ListRems.j3 kq t143 (strOfNums y146) t150 x13_17 x14_27 = some r) ∧ Aside0 (kq ≤ kj23) ∧ Aside0 (Kd.R Kd.string 9 wc w.heap.size (fun k_ => some k_ ≠ (v152 : Value).ownBlock) (.slice Ao19 t143.length co19) t143) ∧ Aside0 (Kd.R Kd.string 9 wc w.heap.size (fun k_ => some k_ ≠ ((.slice Ao19 t143.length co19) : Value).ownBlock) v152 t150) ∧ Aside0 (Below w.heap.size w wc))
                    case first =>
                      have H := HC28.out
                      clear HC28
                      by_cases c29 : a1 < 0
                      · rw [if_pos c29] at H
                        have c29b0 : decide (a1 < 0) = true := decide_eq_true c29
                        clear c29
                        (first | rw [c29b0] | (simp only [i64_w, i32_w]; rw [c29b0]) | skip)
                        have H' := Aside0.mk H
                        clear H
                        go_wp2
                        repeat (go_quiet (fail); try go_wp2)
                        go_meet
                        case rel => exact ⟨_, (wrap64 (x9_1 - x13_17)), (by first | rfl | (simp; done) | (simp [*]; done)), H', ⟨by have := HK1.out; have := HJ17.out; have := HJ23.out; first | omega | exact Nat.le_refl _⟩, ⟨by (with_reducible repeat (first | apply Kd.R_alloc | apply Kd.R_drewN | apply Kd.R_drew)); exact HO_7.out⟩, ⟨by (with_reducible repeat (first | apply Kd.R_alloc | apply Kd.R_drewN | apply Kd.R_drew)); exact HO_11.out⟩, ⟨by repeat (first | (with_reducible first | exact HB.out | apply below_alloc | apply pw_below_drewN | apply below_drew1) | exact HB.out)⟩⟩
                      · rw [if_neg c29] at H
                        have c29b0 : decide (a1 < 0) = false := decide_eq_false c29
                        clear c29
                        (first | rw [c29b0] | (simp only [i64_w, i32_w]; rw [c29b0]) | skip)
                        have H' := Aside0.mk H
                        clear H
                        go_wp2
                        repeat (go_quiet (fail); try go_wp2)
                        go_meet
                        case rel => exact ⟨_, (0), (by first | rfl | (simp; done) | (simp [*]; done)), H', ⟨by have := HK1.out; have := HJ17.out; have := HJ23.out; first | omega | exact Nat.le_refl _⟩, ⟨by (with_reducible repeat (first | apply Kd.R_alloc | apply Kd.R_drewN | apply Kd.R_drew)); exact HO_7.out⟩, ⟨by (with_reducible repeat (first | apply Kd.R_alloc | apply Kd.R_drewN | apply Kd.R_drew)); exact HO_11.out⟩, ⟨by repeat (first | (with_reducible first | exact HB.out | apply below_alloc | apply pw_below_drewN | apply below_drew1) | exact HB.out)⟩⟩
                    case rest =>
                      clear HC28
                      try clear c1
                      try clear p1
                      try clear q1
                      try clear hx1
                      try clear hcv1
                      try clear c2
                      try clear p2
                      try clear c3
                      try clear c4
                      try clear c4b0
                      try clear c4b1
                      try clear p6
                      try clear hcv11
                      try clear c12
                      try clear c12b0
                      try clear c13
                      try clear c13b0
                      try clear c14
                      try clear c14b0
                      try clear c14b1
                      try clear p14
                      try clear q14
                      try clear hx14
                      try clear c21
                      try clear c21b0
                      try clear c21b1
                      try clear c25
                      try clear c25b0
                      try clear c25b1
                      try clear c27
                      try clear c29
                      try clear c29b0
                      try clear hx149_0
                      try clear p1
                      try clear p14
                      try clear p149
                      try clear p2
                      try clear p6
                      try clear q1
                      try clear q14
                      try clear q149
                      obtain ⟨kq, x14_27, rfl, HA, HJ27, HO_7, HO_11, HB⟩ := hcut
                      cases kq with
                      | zero => exact absurd HA.out (by simp [caravanlaw8_ListRems.j3])
                      | succ kj27 =>
                        have H := HA.out
                        clear HA
                        simp only [caravanlaw8_ListRems.j3] at H
                        have H' := Aside0.mk H
                        clear H
                        go_wp2
                        repeat (go_quiet (fail); try go_wp2)
                        go_loopg [15, 16, 17] kj27 (fun kq v15 v16 v17 w' => ∃ (x15_5 : Int) (x16_5 : Int) (x17_5 : Int), v15 = .int .i64 x15_5 ∧ v16 = .int .i64 x16_5 ∧ v17 = .int .i64 x17_5 ∧ Aside0 (caravanlaw8_ListRems.l1 kq t143 (strOfNums y146) t150 x13_17 x14_27 x15_5 x16_5 x17_5 = some r) ∧ Aside0 (kq ≤ kj27) ∧ Aside0 (Kd.R Kd.string 9 w' w.heap.size (fun k_ => some k_ ≠ (v152 : Value).ownBlock) (.slice Ao19 t143.length co19) t143) ∧ Aside0 (Kd.R Kd.string 9 w' w.heap.size (fun k_ => some k_ ≠ ((.slice Ao19 t143.length co19) : Value).ownBlock) v152 t150) ∧ Aside0 (Below w.heap.size w w'))
                        case atStart => exact ⟨(0), (0), (0), (by first | rfl | (simp; done) | (simp [*]; done)), (by first | rfl | (simp; done) | (simp [*]; done)), (by first | rfl | (simp; done) | (simp [*]; done)), H', ⟨Nat.le_refl _⟩, ⟨by (with_reducible repeat (first | apply Kd.R_alloc | apply Kd.R_drewN | apply Kd.R_drew)); exact HO_7.out⟩, ⟨by (with_reducible repeat (first | apply Kd.R_alloc | apply Kd.R_drewN | apply Kd.R_drew)); exact HO_11.out⟩, ⟨by repeat (first | (with_reducible first | exact HB.out | apply below_alloc | apply pw_below_drewN | apply below_drew1) | exact HB.out)⟩⟩
                        case round =>
                          clear H'
                          try clear c1
                          try clear p1
                          try clear q1
                          try clear hx1
                          try clear hcv1
                          try clear c2
                          try clear p2
                          try clear c3
                          try clear c4
                          try clear c4b0
                          try clear c4b1
                          try clear p6
                          try clear hcv11
                          try clear c12
                          try clear c12b0
                          try clear c13
                          try clear c13b0
                          try clear c14
                          try clear c14b0
                          try clear c14b1
                          try clear p14
                          try clear q14
                          try clear hx14
                          try clear c21
                          try clear c21b0
                          try clear c21b1
                          try clear c25
                          try clear c25b0
                          try clear c25b1
                          try clear c27
                          try clear c29
                          try clear c29b0
                          try clear hx149_0
                          try clear p1
                          try clear p14
                          try clear p149
                          try clear p2
                          try clear p6
                          try clear q1
                          try clear q14
                          try clear q149
                          obtain ⟨x15_5, x16_5, x17_5, rfl, rfl, rfl, HA, HK5, HO_7, HO_11, HB⟩ := hrel
                          cases gk with
                          | zero => exact absurd HA.out (by simp [caravanlaw8_ListRems.l1])
                          | succ k5 =>
                            have H := HA.out
                            clear HA
                            simp only [caravanlaw8_ListRems.l1] at H
                            by_cases c30 : x17_5 < (t143.length : Int)
                            · rw [if_pos c30] at H
                              have c30b0 : decide (x17_5 < (t143.length : Int)) = true := decide_eq_true c30
                              clear c30
                              by_cases c31 : 0 ≤ x17_5
                              · rw [if_pos c31] at H
                                have c31b0 : decide (0 ≤ x17_5) = true := decide_eq_true c31
                                clear c31
                                by_cases c32 : (rdOf ByteArray.empty t143 x17_5).toList = (strOfNums y146).toList
                                · rw [if_pos c32] at H
                                  have c32b0 : ((rdOf ByteArray.empty t143 x17_5).toList == (strOfNums y146).toList) = true := beq_iff_eq.mpr c32
                                  have c32b1 : ((rdOf ByteArray.empty t143 x17_5).toList != (strOfNums y146).toList) = false := bne_eq_false_iff_eq.mpr c32
                                  clear c32
                                  have HC33 := Aside0.mk H
                                  clear H
                                  have p155 : 0 ≤ (x17_5 : Int) := of_decide_eq_true (by first | (with_reducible assumption) | assumption)
                                  have q155 : x17_5 < (t143.length : Int) := of_decide_eq_true (by first | (with_reducible assumption) | assumption)
                                  obtain ⟨ad155, e155, hx155_0⟩ := Kd.at_string (Kd.R_reads' HO_7.out).2.2 x17_5 p155 q155
                                  cases e155
                                  replace p155 := eq_true p155
                                  replace q155 := eq_true q155
                                  go_upto_region 26 with (fail)
                                  repeat (go_quiet (fail); go_upto_region 26 with (fail))
                                  go_cut [102] (fun v102 wc => ∃ (kq : Nat) (x102_32 : Bool), v102 = .bool x102_32 ∧ Aside0 (caravanlaw8_ListRems.j5 kq t143 (strOfNums y146) t150 x13_17 x14_27 x15_5 (wrap64 (x16_5 + 1)) x17_5 x102_32 = some r) ∧ Aside0 (kq ≤ k5) ∧ Aside0 (Kd.R Kd.string 9 wc w.heap.size (fun k_ => some k_ ≠ (v152 : Value).ownBlock) (.slice (some ad155) t143.length co19) t143) ∧ Aside0 (Kd.R Kd.string 9 wc w.heap.size (fun k_ => some k_ ≠ ((.slice (some ad155) t143.length co19) : Value).ownBlock) v152 t150) ∧ Aside0 (Below w.heap.size w wc))
                                  case first =>
                                    have H := HC33.out
                                    clear HC33
                                    by_cases c34 : (wrap64 (x16_5 + 1)) > x14_27
                                    · rw [if_pos c34] at H
                                      have c34b0 : decide (x14_27 < (wrap64 (x16_5 + 1))) = true := decide_eq_true c34
                                      clear c34
                                      (first | rw [c34b0] | (simp only [i64_w, i32_w]; rw [c34b0]) | skip)
                                      have H' := Aside0.mk H
                                      clear H
                                      go_wp2
                                      repeat (go_quiet (fail); try go_wp2)
                                      go_meet
                                      case rel => exact ⟨_, (decide ((wrap64 (x16_5 + 1)) ≤ (wrap64 (x14_27 + x13_17)))), (by first | rfl | (simp; done) | (simp [*]; done)), H', ⟨by have := HK1.out; have := HJ17.out; have := HJ23.out; have := HJ27.out; have := HK5.out; first | omega | exact Nat.le_refl _⟩, ⟨by (with_reducible repeat (first | apply Kd.R_alloc | apply Kd.R_drewN | apply Kd.R_drew)); exact HO_7.out⟩, ⟨by (with_reducible repeat (first | apply Kd.R_alloc | apply Kd.R_drewN | apply Kd.R_drew)); exact HO_11.out⟩, ⟨by repeat (first | (with_reducible first | exact HB.out | apply below_alloc | apply pw_below_drewN | apply below_drew1) | exact HB.out)⟩⟩
                                    · rw [if_neg c34] at H
                                      have c34b0 : decide (x14_27 < (wrap64 (x16_5 + 1))) = false := decide_eq_false c34
                                      clear c34
                                      (first | rw [c34b0] | (simp only [i64_w, i32_w]; rw [c34b0]) | skip)
                                      have H' := Aside0.mk H
                                      clear H
                                      go_wp2
                                      repeat (go_quiet (fail); try go_wp2)
                                      go_meet
                                      case rel => exact ⟨_, (false), (by first | rfl | (simp; done) | (simp [*]; done)), H', ⟨by have := HK1.out; have := HJ17.out; have := HJ23.out; have := HJ27.out; have := HK5.out; first | omega | exact Nat.le_refl _⟩, ⟨by (with_reducible repeat (first | apply Kd.R_alloc | apply Kd.R_drewN | apply Kd.R_drew)); exact HO_7.out⟩, ⟨by (with_reducible repeat (first | apply Kd.R_alloc | apply Kd.R_drewN | apply Kd.R_drew)); exact HO_11.out⟩, ⟨by repeat (first | (with_reducible first | exact HB.out | apply below_alloc | apply pw_below_drewN | apply below_drew1) | exact HB.out)⟩⟩
                                  case rest =>
                                    clear HC33
                                    try clear c1
                                    try clear p1
                                    try clear q1
                                    try clear hx1
                                    try clear hcv1
                                    try clear c2
                                    try clear p2
                                    try clear c3
                                    try clear c4
                                    try clear c4b0
                                    try clear c4b1
                                    try clear p6
                                    try clear hcv11
                                    try clear c12
                                    try clear c12b0
                                    try clear c13
                                    try clear c13b0
                                    try clear c14
                                    try clear c14b0
                                    try clear c14b1
                                    try clear p14
                                    try clear q14
                                    try clear hx14
                                    try clear p15
                                    try clear q15
                                    try clear hx15
                                    try clear c21
                                    try clear c21b0
                                    try clear c21b1
                                    try clear c25
                                    try clear c25b0
                                    try clear c25b1
                                    try clear c27
                                    try clear c29
                                    try clear c29b0
                                    try clear c30
                                    try clear c30b0
                                    try clear c31
                                    try clear c31b0
                                    try clear c32
                                    try clear c32b0
                                    try clear c32b1
                                    try clear c34
                                    try clear c34b0
                                    try clear hx149_0
                                    try clear hx155_0
                                    try clear p1
                                    try clear p14
                                    try clear p149
                                    try clear p155
                                    try clear p2
                                    try clear p6
                                    try clear q1
                                    try clear q14
                                    try clear q149
                                    try clear q155
                                    obtain ⟨kq, x102_32, rfl, HA, HJ32, HO_7, HO_11, HB⟩ := hcut
                                    cases kq with
                                    | zero => exact absurd HA.out (by simp [caravanlaw8_ListRems.j5])
                                    | succ kj32 =>
                                      have H := HA.out
                                      clear HA
                                      simp only [caravanlaw8_ListRems.j5] at H
                                      by_cases c35 : x102_32 = true
                                      · subst c35
                                        have H1 : (caravanlaw8_ListRems.l1 kj32 t143 (strOfNums y146) t150 x13_17 x14_27 x15_5 (wrap64 (x16_5 + 1)) (wrap64 (x17_5 + 1))) = some r := by rw [if_pos rfl] at H; exact H
                                        clear H
                                        have H := H1
                                        clear H1
                                        have H' := Aside0.mk H
                                        clear H
                                        go_wp2
                                        repeat (go_quiet (fail); try go_wp2)
                                        go_roundg kj32
                                        case measure => have := HK1.out; have := HJ17.out; have := HJ23.out; have := HJ27.out; have := HK5.out; have := HJ32.out; omega
                                        case rel => exact ⟨(x15_5), ((wrap64 (x16_5 + 1))), (wrap64 (x17_5 + 1)), (by first | rfl | (simp; done) | (simp [*]; done)), (by first | rfl | (simp; done) | (simp [*]; done)), (by first | rfl | (simp; done) | (simp [*]; done)), H', ⟨by have := HK1.out; have := HJ17.out; have := HJ23.out; have := HJ27.out; have := HK5.out; have := HJ32.out; omega⟩, ⟨by (with_reducible repeat (first | apply Kd.R_alloc | apply Kd.R_drewN | apply Kd.R_drew)); exact HO_7.out⟩, ⟨by (with_reducible repeat (first | apply Kd.R_alloc | apply Kd.R_drewN | apply Kd.R_drew)); exact HO_11.out⟩, ⟨by repeat (first | (with_reducible first | exact HB.out | apply below_alloc | apply pw_below_drewN | apply below_drew1) | exact HB.out)⟩⟩
                                      · replace c35 := Bool.eq_false_iff.mpr c35
                                        subst c35
                                        have H1 : (if x15_5 ≥ (t150.length : Int) then (some false) else (if 0 ≤ x15_5 then (if x15_5 < (t150.length : Int) then (if 0 ≤ x17_5 then (if x17_5 < (t143.length : Int) then (if (rdOf ByteArray.empty t150 x15_5).toList = (rdOf ByteArray.empty t143 x17_5).toList then (caravanlaw8_ListRems.l1 kj32 t143 (strOfNums y146) t150 x13_17 x14_27 (wrap64 (x15_5 + 1)) (wrap64 (x16_5 + 1)) (wrap64 (x17_5 + 1))) else (some false)) else (none)) else (none)) else (none)) else (none))) = some r := by rw [if_neg (show ¬ (false = true) by decide)] at H; exact H
                                        clear H
                                        have H := H1
                                        clear H1
                                        by_cases c36 : x15_5 ≥ (t150.length : Int)
                                        · rw [if_pos c36] at H
                                          have c36b0 : decide ((t150.length : Int) ≤ x15_5) = true := decide_eq_true c36
                                          clear c36
                                          obtain rfl := Option.some.inj H
                                          obtain ⟨Ao37, co37, eo37⟩ := Kd.R_slice HO_11.out
                                          subst eo37
                                          go_wp2
                                          repeat (go_quiet (fail); try go_wp2)
                                          go_ret
                                          exact ⟨by first | rfl | (simp [errW_none, errW_some] <;> rfl) | (simp [*, errW_none, errW_some] <;> rfl), by repeat (first | (with_reducible first | exact HB.out | apply below_alloc | apply pw_below_drewN | apply below_drew1) | exact HB.out)⟩
                                        · rw [if_neg c36] at H
                                          have c36b0 : decide ((t150.length : Int) ≤ x15_5) = false := decide_eq_false c36
                                          clear c36
                                          by_cases c38 : 0 ≤ x15_5
                                          · rw [if_pos c38] at H
                                            have c38b0 : decide (0 ≤ x15_5) = true := decide_eq_true c38
                                            clear c38
                                            by_cases c39 : x15_5 < (t150.length : Int)
                                            · rw [if_pos c39] at H
                                              have c39b0 : decide (x15_5 < (t150.length : Int)) = true := decide_eq_true c39
                                              clear c39
                                              by_cases c40 : 0 ≤ x17_5
                                              · rw [if_pos c40] at H
                                                have c40b0 : decide (0 ≤ x17_5) = true := decide_eq_true c40
                                                clear c40
                                                by_cases c41 : x17_5 < (t143.length : Int)
                                                · rw [if_pos c41] at H
                                                  have c41b0 : decide (x17_5 < (t143.length : Int)) = true := decide_eq_true c41
                                                  clear c41
                                                  by_cases c42 : (rdOf ByteArray.empty t150 x15_5).toList = (rdOf ByteArray.empty t143 x17_5).toList
                                                  · rw [if_pos c42] at H
                                                    have c42b0 : ((rdOf ByteArray.empty t150 x15_5).toList == (rdOf ByteArray.empty t143 x17_5).toList) = true := beq_iff_eq.mpr c42
                                                    have c42b1 : ((rdOf ByteArray.empty t150 x15_5).toList != (rdOf ByteArray.empty t143 x17_5).toList) = false := bne_eq_false_iff_eq.mpr c42
                                                    clear c42
                                                    have H' := Aside0.mk H
                                                    clear H
                                                    obtain ⟨Ao43, co43, eo43⟩ := Kd.R_slice HO_11.out
                                                    subst eo43
                                                    have p156 : 0 ≤ (x15_5 : Int) := of_decide_eq_true (by first | (with_reducible assumption) | assumption)
                                                    have q156 : x15_5 < (t150.length : Int) := of_decide_eq_true (by first | (with_reducible assumption) | assumption)
                                                    obtain ⟨ad156, e156, hx156_0⟩ := Kd.at_string (Kd.R_reads' HO_11.out).2.2 x15_5 p156 q156
                                                    cases e156
                                                    replace p156 := eq_true p156
                                                    replace q156 := eq_true q156
                                                    have p157 : 0 ≤ (x17_5 : Int) := of_decide_eq_true (by first | (with_reducible assumption) | assumption)
                                                    have q157 : x17_5 < (t143.length : Int) := of_decide_eq_true (by first | (with_reducible assumption) | assumption)
                                                    obtain ⟨ad157, e157, hx157_0⟩ := Kd.at_string (Kd.R_reads' HO_7.out).2.2 x17_5 p157 q157
                                                    obtain rfl : ad155 = ad157 := (by injection e157)
                                                    replace p157 := eq_true p157
                                                    replace q157 := eq_true q157
                                                    go_wp2
                                                    repeat (go_quiet (fail); try go_wp2)
                                                    go_roundg kj32
                                                    case measure => have := HK1.out; have := HJ17.out; have := HJ23.out; have := HJ27.out; have := HK5.out; have := HJ32.out; omega
                                                    case rel => exact ⟨(wrap64 (x15_5 + 1)), ((wrap64 (x16_5 + 1))), (wrap64 (x17_5 + 1)), (by first | rfl | (simp; done) | (simp [*]; done)), (by first | rfl | (simp; done) | (simp [*]; done)), (by first | rfl | (simp; done) | (simp [*]; done)), H', ⟨by have := HK1.out; have := HJ17.out; have := HJ23.out; have := HJ27.out; have := HK5.out; have := HJ32.out; omega⟩, ⟨by (with_reducible repeat (first | apply Kd.R_alloc | apply Kd.R_drewN | apply Kd.R_drew)); exact HO_7.out⟩, ⟨by (with_reducible repeat (first | apply Kd.R_alloc | apply Kd.R_drewN | apply Kd.R_drew)); exact HO_11.out⟩, ⟨by repeat (first | (with_reducible first | exact HB.out | apply below_alloc | apply pw_below_drewN | apply below_drew1) | exact HB.out)⟩⟩
                                                  · rw [if_neg c42] at H
                                                    have c42b0 : ((rdOf ByteArray.empty t150 x15_5).toList == (rdOf ByteArray.empty t143 x17_5).toList) = false := beq_eq_false_iff_ne.mpr c42
                                                    have c42b1 : ((rdOf ByteArray.empty t150 x15_5).toList != (rdOf ByteArray.empty t143 x17_5).toList) = true := bne_iff_ne.mpr c42
                                                    obtain rfl := Option.some.inj H
                                                    obtain ⟨Ao44, co44, eo44⟩ := Kd.R_slice HO_11.out
                                                    subst eo44
                                                    have p156 : 0 ≤ (x15_5 : Int) := of_decide_eq_true (by first | (with_reducible assumption) | assumption)
                                                    have q156 : x15_5 < (t150.length : Int) := of_decide_eq_true (by first | (with_reducible assumption) | assumption)
                                                    obtain ⟨ad156, e156, hx156_0⟩ := Kd.at_string (Kd.R_reads' HO_11.out).2.2 x15_5 p156 q156
                                                    cases e156
                                                    replace p156 := eq_true p156
                                                    replace q156 := eq_true q156
                                                    have p157 : 0 ≤ (x17_5 : Int) := of_decide_eq_true (by first | (with_reducible assumption) | assumption)
                                                    have q157 : x17_5 < (t143.length : Int) := of_decide_eq_true (by first | (with_reducible assumption) | assumption)
                                                    obtain ⟨ad157, e157, hx157_0⟩ := Kd.at_string (Kd.R_reads' HO_7.out).2.2 x17_5 p157 q157
                                                    obtain rfl : ad155 = ad157 := (by injection e157)
                                                    replace p157 := eq_true p157
                                                    replace q157 := eq_true q157
                                                    go_wp2
                                                    repeat (go_quiet (fail); try go_wp2)
                                                    go_ret
                                                    exact ⟨by first | rfl | (simp [errW_none, errW_some] <;> rfl) | (simp [*, errW_none, errW_some] <;> rfl), by repeat (first | (with_reducible first | exact HB.out | apply below_alloc | apply pw_below_drewN | apply below_drew1) | exact HB.out)⟩
                                                · rw [if_neg c41] at H
                                                  exact absurd H (by simp)
                                              · rw [if_neg c40] at H
                                                exact absurd H (by simp)
                                            · rw [if_neg c39] at H
                                              exact absurd H (by simp)
                                          · rw [if_neg c38] at H
                                            exact absurd H (by simp)
                                · rw [if_neg c32] at H
                                  have c32b0 : ((rdOf ByteArray.empty t143 x17_5).toList == (strOfNums y146).toList) = false := beq_eq_false_iff_ne.mpr c32
                                  have c32b1 : ((rdOf ByteArray.empty t143 x17_5).toList != (strOfNums y146).toList) = true := bne_iff_ne.mpr c32
                                  by_cases c45 : x15_5 ≥ (t150.length : Int)
                                  · rw [if_pos c45] at H
                                    have c45b0 : decide ((t150.length : Int) ≤ x15_5) = true := decide_eq_true c45
                                    clear c45
                                    obtain rfl := Option.some.inj H
                                    have p155 : 0 ≤ (x17_5 : Int) := of_decide_eq_true (by first | (with_reducible assumption) | assumption)
                                    have q155 : x17_5 < (t143.length : Int) := of_decide_eq_true (by first | (with_reducible assumption) | assumption)
                                    obtain ⟨ad155, e155, hx155_0⟩ := Kd.at_string (Kd.R_reads' HO_7.out).2.2 x17_5 p155 q155
                                    cases e155
                                    replace p155 := eq_true p155
                                    replace q155 := eq_true q155
                                    obtain ⟨Ao46, co46, eo46⟩ := Kd.R_slice HO_11.out
                                    subst eo46
                                    go_wp2
                                    repeat (go_quiet (fail); try go_wp2)
                                    go_ret
                                    exact ⟨by first | rfl | (simp [errW_none, errW_some] <;> rfl) | (simp [*, errW_none, errW_some] <;> rfl), by repeat (first | (with_reducible first | exact HB.out | apply below_alloc | apply pw_below_drewN | apply below_drew1) | exact HB.out)⟩
                                  · rw [if_neg c45] at H
                                    have c45b0 : decide ((t150.length : Int) ≤ x15_5) = false := decide_eq_false c45
                                    clear c45
                                    by_cases c47 : 0 ≤ x15_5
                                    · rw [if_pos c47] at H
                                      have c47b0 : decide (0 ≤ x15_5) = true := decide_eq_true c47
                                      clear c47
                                      by_cases c48 : x15_5 < (t150.length : Int)
                                      · rw [if_pos c48] at H
                                        have c48b0 : decide (x15_5 < (t150.length : Int)) = true := decide_eq_true c48
                                        clear c48
                                        by_cases c49 : (rdOf ByteArray.empty t150 x15_5).toList = (rdOf ByteArray.empty t143 x17_5).toList
                                        · rw [if_pos c49] at H
                                          have c49b0 : ((rdOf ByteArray.empty t150 x15_5).toList == (rdOf ByteArray.empty t143 x17_5).toList) = true := beq_iff_eq.mpr c49
                                          have c49b1 : ((rdOf ByteArray.empty t150 x15_5).toList != (rdOf ByteArray.empty t143 x17_5).toList) = false := bne_eq_false_iff_eq.mpr c49
                                          clear c49
                                          have H' := Aside0.mk H
                                          clear H
                                          have p155 : 0 ≤ (x17_5 : Int) := of_decide_eq_true (by first | (with_reducible assumption) | assumption)
                                          have q155 : x17_5 < (t143.length : Int) := of_decide_eq_true (by first | (with_reducible assumption) | assumption)
                                          obtain ⟨ad155, e155, hx155_0⟩ := Kd.at_string (Kd.R_reads' HO_7.out).2.2 x17_5 p155 q155
                                          cases e155
                                          replace p155 := eq_true p155
                                          replace q155 := eq_true q155
                                          obtain ⟨Ao50, co50, eo50⟩ := Kd.R_slice HO_11.out
                                          subst eo50
                                          have p158 : 0 ≤ (x15_5 : Int) := of_decide_eq_true (by first | (with_reducible assumption) | assumption)
                                          have q158 : x15_5 < (t150.length : Int) := of_decide_eq_true (by first | (with_reducible assumption) | assumption)
                                          obtain ⟨ad158, e158, hx158_0⟩ := Kd.at_string (Kd.R_reads' HO_11.out).2.2 x15_5 p158 q158
                                          cases e158
                                          replace p158 := eq_true p158
                                          replace q158 := eq_true q158
                                          have p159 : 0 ≤ (x17_5 : Int) := of_decide_eq_true (by first | (with_reducible assumption) | assumption)
                                          have q159 : x17_5 < (t143.length : Int) := of_decide_eq_true (by first | (with_reducible assumption) | assumption)
                                          obtain ⟨ad159, e159, hx159_0⟩ := Kd.at_string (Kd.R_reads' HO_7.out).2.2 x17_5 p159 q159
                                          obtain rfl : ad155 = ad159 := (by injection e159)
                                          replace p159 := eq_true p159
                                          replace q159 := eq_true q159
                                          go_wp2
                                          repeat (go_quiet (fail); try go_wp2)
                                          go_roundg k5
                                          case measure => have := HK1.out; have := HJ17.out; have := HJ23.out; have := HJ27.out; have := HK5.out; omega
                                          case rel => exact ⟨(wrap64 (x15_5 + 1)), (x16_5), (wrap64 (x17_5 + 1)), (by first | rfl | (simp; done) | (simp [*]; done)), (by first | rfl | (simp; done) | (simp [*]; done)), (by first | rfl | (simp; done) | (simp [*]; done)), H', ⟨by have := HK1.out; have := HJ17.out; have := HJ23.out; have := HJ27.out; have := HK5.out; omega⟩, ⟨by (with_reducible repeat (first | apply Kd.R_alloc | apply Kd.R_drewN | apply Kd.R_drew)); exact HO_7.out⟩, ⟨by (with_reducible repeat (first | apply Kd.R_alloc | apply Kd.R_drewN | apply Kd.R_drew)); exact HO_11.out⟩, ⟨by repeat (first | (with_reducible first | exact HB.out | apply below_alloc | apply pw_below_drewN | apply below_drew1) | exact HB.out)⟩⟩
                                        · rw [if_neg c49] at H
                                          have c49b0 : ((rdOf ByteArray.empty t150 x15_5).toList == (rdOf ByteArray.empty t143 x17_5).toList) = false := beq_eq_false_iff_ne.mpr c49
                                          have c49b1 : ((rdOf ByteArray.empty t150 x15_5).toList != (rdOf ByteArray.empty t143 x17_5).toList) = true := bne_iff_ne.mpr c49
                                          obtain rfl := Option.some.inj H
                                          have p155 : 0 ≤ (x17_5 : Int) := of_decide_eq_true (by first | (with_reducible assumption) | assumption)
                                          have q155 : x17_5 < (t143.length : Int) := of_decide_eq_true (by first | (with_reducible assumption) | assumption)
                                          obtain ⟨ad155, e155, hx155_0⟩ := Kd.at_string (Kd.R_reads' HO_7.out).2.2 x17_5 p155 q155
                                          cases e155
                                          replace p155 := eq_true p155
                                          replace q155 := eq_true q155
                                          obtain ⟨Ao51, co51, eo51⟩ := Kd.R_slice HO_11.out
                                          subst eo51
                                          have p158 : 0 ≤ (x15_5 : Int) := of_decide_eq_true (by first | (with_reducible assumption) | assumption)
                                          have q158 : x15_5 < (t150.length : Int) := of_decide_eq_true (by first | (with_reducible assumption) | assumption)
                                          obtain ⟨ad158, e158, hx158_0⟩ := Kd.at_string (Kd.R_reads' HO_11.out).2.2 x15_5 p158 q158
                                          cases e158
                                          replace p158 := eq_true p158
                                          replace q158 := eq_true q158
                                          have p159 : 0 ≤ (x17_5 : Int) := of_decide_eq_true (by first | (with_reducible assumption) | assumption)
                                          have q159 : x17_5 < (t143.length : Int) := of_decide_eq_true (by first | (with_reducible assumption) | assumption)
                                          obtain ⟨ad159, e159, hx159_0⟩ := Kd.at_string (Kd.R_reads' HO_7.out).2.2 x17_5 p159 q159
                                          obtain rfl : ad155 = ad159 := (by injection e159)
                                          replace p159 := eq_true p159
                                          replace q159 := eq_true q159
                                          go_wp2
                                          repeat (go_quiet (fail); try go_wp2)
                                          go_ret
                                          exact ⟨by first | rfl | (simp [errW_none, errW_some] <;> rfl) | (simp [*, errW_none, errW_some] <;> rfl), by repeat (first | (with_reducible first | exact HB.out | apply below_alloc | apply pw_below_drewN | apply below_drew1) | exact HB.out)⟩
                                      · rw [if_neg c48] at H
                                        exact absurd H (by simp)
                                    · rw [if_neg c47] at H
                                      exact absurd H (by simp)
                              · rw [if_neg c31] at H
                                exact absurd H (by simp)
                            · rw [if_neg c30] at H
                              have c30b0 : decide (x17_5 < (t143.length : Int)) = false := decide_eq_false c30
                              clear c30
                              by_cases c52 : x15_5 = (t150.length : Int)
                              · rw [if_pos c52] at H
                                have c52b0 : (x15_5 == (t150.length : Int)) = true := beq_iff_eq.mpr c52
                                have c52b1 : (x15_5 != (t150.length : Int)) = false := bne_eq_false_iff_eq.mpr c52
                                clear c52
                                replace H := Option.bind_eq_some_iff.mp H
                                obtain ⟨t154, A530, H⟩ := H
                                replace H : (some t154) = some r := H
                                have A53 := Aside0.mk A530
                                clear A530
                                obtain rfl := Option.some.inj H
                                obtain ⟨Ao54, co54, eo54⟩ := Kd.R_slice HO_11.out
                                subst eo54
                                go_wp2_with (first | (go_at_call 8; (with_reducible refine (caravanlaw8_awake.calls k5  t154 _ A53.out).mono ?_); rintro e w55 ⟨rfl, hb⟩; have n0_ := Aside0.mk (Kd.R_below (by (with_reducible repeat (first | apply Kd.R_alloc | apply Kd.R_drewN | apply Kd.R_drew)); exact HO_7.out) hb); have n1_ := Aside0.mk (Kd.R_below (by (with_reducible repeat (first | apply Kd.R_alloc | apply Kd.R_drewN | apply Kd.R_drew)); exact HO_11.out) hb); have n2_ := Aside0.mk (below_step (by repeat (first | (with_reducible first | exact HB.out | apply below_alloc | apply pw_below_drewN | apply below_drew1) | exact HB.out)) hb); clear HO_7; clear HO_11; clear HB; have HO_7 := n0_; have HO_11 := n1_; have HB := n2_; clear n0_ n1_ n2_; (try clear hb); (try clear hb2); (try clear hk); (try clear hi)))
                                repeat (go_quiet (first | (go_at_call 8; (with_reducible refine (caravanlaw8_awake.calls k5  t154 _ A53.out).mono ?_); rintro e w55 ⟨rfl, hb⟩; have n0_ := Aside0.mk (Kd.R_below (by (with_reducible repeat (first | apply Kd.R_alloc | apply Kd.R_drewN | apply Kd.R_drew)); exact HO_7.out) hb); have n1_ := Aside0.mk (Kd.R_below (by (with_reducible repeat (first | apply Kd.R_alloc | apply Kd.R_drewN | apply Kd.R_drew)); exact HO_11.out) hb); have n2_ := Aside0.mk (below_step (by repeat (first | (with_reducible first | exact HB.out | apply below_alloc | apply pw_below_drewN | apply below_drew1) | exact HB.out)) hb); clear HO_7; clear HO_11; clear HB; have HO_7 := n0_; have HO_11 := n1_; have HB := n2_; clear n0_ n1_ n2_; (try clear hb); (try clear hb2); (try clear hk); (try clear hi))); try go_wp2_with (first | (go_at_call 8; (with_reducible refine (caravanlaw8_awake.calls k5  t154 _ A53.out).mono ?_); rintro e w55 ⟨rfl, hb⟩; have n0_ := Aside0.mk (Kd.R_below (by (with_reducible repeat (first | apply Kd.R_alloc | apply Kd.R_drewN | apply Kd.R_drew)); exact HO_7.out) hb); have n1_ := Aside0.mk (Kd.R_below (by (with_reducible repeat (first | apply Kd.R_alloc | apply Kd.R_drewN | apply Kd.R_drew)); exact HO_11.out) hb); have n2_ := Aside0.mk (below_step (by repeat (first | (with_reducible first | exact HB.out | apply below_alloc | apply pw_below_drewN | apply below_drew1) | exact HB.out)) hb); clear HO_7; clear HO_11; clear HB; have HO_7 := n0_; have HO_11 := n1_; have HB := n2_; clear n0_ n1_ n2_; (try clear hb); (try clear hb2); (try clear hk); (try clear hi))))
                                go_ret
                                exact ⟨by first | rfl | (simp [errW_none, errW_some] <;> rfl) | (simp [*, errW_none, errW_some] <;> rfl), by repeat (first | (with_reducible first | exact HB.out | apply below_alloc | apply pw_below_drewN | apply below_drew1) | exact HB.out)⟩
                              · rw [if_neg c52] at H
                                have c52b0 : (x15_5 == (t150.length : Int)) = false := beq_eq_false_iff_ne.mpr c52
                                have c52b1 : (x15_5 != (t150.length : Int)) = true := bne_iff_ne.mpr c52
                                obtain rfl := Option.some.inj H
                                obtain ⟨Ao56, co56, eo56⟩ := Kd.R_slice HO_11.out
                                subst eo56
                                go_wp2
                                repeat (go_quiet (fail); try go_wp2)
                                go_ret
                                exact ⟨by first | rfl | (simp [errW_none, errW_some] <;> rfl) | (simp [*, errW_none, errW_some] <;> rfl), by repeat (first | (with_reducible first | exact HB.out | apply below_alloc | apply pw_below_drewN | apply below_drew1) | exact HB.out)⟩

/-- THE ONE PURE STATEMENT of caravanlaw8_ListRems: yours. -/
def caravanlaw8_ListRems.Pure : Prop := ∀ (l0 : List Int) (a1 : Int) (a2 : Int), l0.length ≤ maxLen → l0.length * 1 ≤ 140737488351232 → (∀ x ∈ l0, (Lit.int .u8 x).wf = true) → (Lit.int .i8 a1).wf = true → (Lit.int .u8 a2).wf = true → ∃ k, caravanlaw8_ListRems.f k l0 a1 a2 = some true
theorem caravanlaw8_ListRems.walk (P : caravanlaw8_ListRems.Pure) (a0 : Option Addr) (len0 cap0 : Nat) (z0 : List Int) (a1 : Int) (a2 : Int) (w : World) (w0 : (a0 = none ∧ len0 = 0 ∧ cap0 = 0 ∧ z0 = []) ∨ ∃ x, a0 = some x ∧ len0 ≤ cap0 ∧ cap0 ≤ maxLen ∧ z0.length = cap0 ∧ (∀ i, i < z0.length → w.cell? (x.add i) = some (.int .u8 (z0.getD i 0))) ∧ ∀ n ∈ z0, (Lit.int .u8 n).wf = true) (y0 : len0 * 1 ≤ 140737488351232) (w1 : (Lit.int .i8 a1).wf = true) (w2 : (Lit.int .u8 a2).wf = true) :
    Calls Try.prog 3 #[.slice a0 len0 cap0, .int .i8 a1, .int .u8 a2] w fun e w' => e = .returned (.bool true) ∧ Below w.heap.size w w' := by
  obtain ⟨l0, rfl, hr0, hm0, hw0, hc0⟩ := ReadsInt.ofRowC w0
  obtain ⟨k, h⟩ := P l0 a1 a2 hm0 y0 hw0 w1 w2
  refine (caravanlaw8_ListRems.calls k _ _ l0 a1 a2 true w (Kd.C_of_reads (d := (0 : Int)) (h1 := fun _ => rfl) hr0) hc0 h).mono ?_
  rintro e w' ⟨rfl, hd⟩
  exact ⟨rfl, hd⟩

end Go.Proofs.Ytheooomdhbleeaa.LX

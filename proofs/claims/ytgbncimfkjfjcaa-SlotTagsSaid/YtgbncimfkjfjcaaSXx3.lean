/- The machine side of a law: what Go functions compute, as Lean functions, and the proofs of it. Conditions: none. (Written by wip/myprint.py of this session's repo.) -/
import Derived.Test.YtgbncimfkjfjcaaSXx0
import Derived.Test.YtgbncimfkjfjcaaSXx1
import Derived.Test.YtgbncimfkjfjcaaSXx2
namespace Go.Proofs.Ytgbncimfkjfjcaa.SX
open Go.RowKit Go.Proofs.YtgbncimfkjfjcaaW.PrintWords Go.Proofs.YtgbncimfkjfjcaaW.PrintLast Go.Proofs.YtgbncimfkjfjcaaW.PrintMore
attribute [local go_sem] max2_int min2_int max_two min_two max_three min_three max_four min_four   -- for this text's walks alone
set_option linter.unusedVariables false
set_option linter.unusedSimpArgs false

/-! ### caravanlaw1_SlotTags: function 7 -/
mutual
def caravanlaw1_SlotTags.j0 : Nat → ByteArray → ByteArray → ByteArray → Bool → Option (Bool)
  | 0, _, _, _, _ => none
  | k + 1, x0, x1, x2, x27 => if x27 = true then ((caravanlaw1_awake.f k).bind fun t132 => (some t132)) else (caravanlaw1_SlotTags.l0 k x0 x1 x2 0)
def caravanlaw1_SlotTags.l0 : Nat → ByteArray → ByteArray → ByteArray → Int → Option (Bool)
  | 0, _, _, _, _ => none
  | k + 1, x0, x1, x2, x7 => if x7 < (x0.size : Int) then (if 0 ≤ x7 then (if (bt x0 x7) = 125 then ((caravanlaw1_awake.f k).bind fun t133 => (some t133)) else (caravanlaw1_SlotTags.l0 k x0 x1 x2 (wrap64 (x7 + 1)))) else (none)) else (caravanlaw1_SlotTags.l1 k x0 x1 x2 0)
def caravanlaw1_SlotTags.l1 : Nat → ByteArray → ByteArray → ByteArray → Int → Option (Bool)
  | 0, _, _, _, _ => none
  | k + 1, x0, x1, x2, x8 => if x8 < (x1.size : Int) then (if 0 ≤ x8 then (if (bt x1 x8) = 123 then ((caravanlaw1_awake.f k).bind fun t134 => (some t134)) else (caravanlaw1_SlotTags.l1 k x0 x1 x2 (wrap64 (x8 + 1)))) else (none)) else (if 1 + x0.size ≤ 9223372036854775807 then (if ((⟨#[123]⟩ : ByteArray) ++ x0).size + 1 ≤ 9223372036854775807 then (if x1.size + 1 ≤ 9223372036854775807 then (if (x1 ++ (⟨#[123]⟩ : ByteArray)).size + x0.size ≤ 9223372036854775807 then (if ((x1 ++ (⟨#[123]⟩ : ByteArray)) ++ x0).size + 1 ≤ 9223372036854775807 then (if (((x1 ++ (⟨#[123]⟩ : ByteArray)) ++ x0) ++ (⟨#[125]⟩ : ByteArray)).size + x2.size ≤ 9223372036854775807 then ((slot_One.f k (([((⟨#[123]⟩ : ByteArray) ++ x0) ++ (⟨#[125]⟩ : ByteArray), (((x1 ++ (⟨#[123]⟩ : ByteArray)) ++ x0) ++ (⟨#[125]⟩ : ByteArray)) ++ x2] : List ByteArray))).bind fun bt138 => (if bt138.2 = true then ((slot_Of.f k (((⟨#[123]⟩ : ByteArray) ++ x0) ++ (⟨#[125]⟩ : ByteArray))).bind fun t140 => (if bt138.1 = t140 then ((slot_Tag.f ((((x1 ++ (⟨#[123]⟩ : ByteArray)) ++ x0) ++ (⟨#[125]⟩ : ByteArray)) ++ x2)).bind fun t141 => (if t141.toList = x0.toList then (if x1.size + 2 ≤ 9223372036854775807 then (if (x1 ++ (⟨#[123, 125]⟩ : ByteArray)).size + x2.size ≤ 9223372036854775807 then ((slot_Tag.f ((x1 ++ (⟨#[123, 125]⟩ : ByteArray)) ++ x2)).bind fun t142 => (if t142.toList = ((x1 ++ (⟨#[123, 125]⟩ : ByteArray)) ++ x2).toList then ((slot_Tag.f ((x1 ++ (⟨#[123]⟩ : ByteArray)) ++ x0)).bind fun t143 => (if t143.toList = ((x1 ++ (⟨#[123]⟩ : ByteArray)) ++ x0).toList then ((caravanlaw1_awake.f k).bind fun t144 => (some t144)) else (none))) else (none))) else (none)) else (none)) else (none))) else (none))) else (none))) else (none)) else (none)) else (none)) else (none)) else (none)) else (none))
end
def caravanlaw1_SlotTags.f (k : Nat) (a0 : ByteArray) (a1 : ByteArray) (a2 : ByteArray) : Option (Bool) := if (a0.size : Int) > 60 then (caravanlaw1_SlotTags.j0 k a0 a1 a2 true) else (if (a1.size : Int) > 60 then (caravanlaw1_SlotTags.j0 k a0 a1 a2 true) else (if (a2.size : Int) > 60 then (caravanlaw1_SlotTags.j0 k a0 a1 a2 true) else (caravanlaw1_SlotTags.j0 k a0 a1 a2 (a0.toList == ([] : List UInt8)))))
theorem caravanlaw1_SlotTags.mono_l : ∀ k, (∀ y0 y1 y2 y3, LeO (caravanlaw1_SlotTags.j0 k y0 y1 y2 y3) (caravanlaw1_SlotTags.j0 (k + 1) y0 y1 y2 y3)) ∧ (∀ y0 y1 y2 y3, LeO (caravanlaw1_SlotTags.l0 k y0 y1 y2 y3) (caravanlaw1_SlotTags.l0 (k + 1) y0 y1 y2 y3)) ∧ (∀ y0 y1 y2 y3, LeO (caravanlaw1_SlotTags.l1 k y0 y1 y2 y3) (caravanlaw1_SlotTags.l1 (k + 1) y0 y1 y2 y3))
  | 0 => ⟨fun _ _ _ _ r h => by simp [caravanlaw1_SlotTags.j0] at h, fun _ _ _ _ r h => by simp [caravanlaw1_SlotTags.l0] at h, fun _ _ _ _ r h => by simp [caravanlaw1_SlotTags.l1] at h⟩
  | k + 1 => by
    obtain ⟨ih0, ih1, ih2⟩ := caravanlaw1_SlotTags.mono_l k
    refine ⟨?_, ?_, ?_⟩
    · intro y0 y1 y2 y3
      unfold caravanlaw1_SlotTags.j0
      repeat' first
      | (with_reducible exact ih0 _ _ _ _)
      | (with_reducible exact ih1 _ _ _ _)
      | (with_reducible exact ih2 _ _ _ _)
      | (with_reducible exact caravanlaw1_awake.mono _)
      | (with_reducible exact slot_Of.mono _ _)
      | (with_reducible exact slot_One.mono _ _)
      | (with_reducible exact LeO.refl _)
      | (with_reducible exact LeO.none _)
      | (with_reducible refine LeO.ite ?_ ?_)
      | (with_reducible refine LeO.bind ?_ (fun _ => ?_))
      | exact ih0 _ _ _ _
      | exact ih1 _ _ _ _
      | exact ih2 _ _ _ _
      | exact caravanlaw1_awake.mono _
      | exact slot_Of.mono _ _
      | exact slot_One.mono _ _
      | exact LeO.none _
      | refine LeO.ite ?_ ?_
      | refine LeO.bind ?_ (fun _ => ?_)
    · intro y0 y1 y2 y3
      unfold caravanlaw1_SlotTags.l0
      repeat' first
      | (with_reducible exact ih0 _ _ _ _)
      | (with_reducible exact ih1 _ _ _ _)
      | (with_reducible exact ih2 _ _ _ _)
      | (with_reducible exact caravanlaw1_awake.mono _)
      | (with_reducible exact slot_Of.mono _ _)
      | (with_reducible exact slot_One.mono _ _)
      | (with_reducible exact LeO.refl _)
      | (with_reducible exact LeO.none _)
      | (with_reducible refine LeO.ite ?_ ?_)
      | (with_reducible refine LeO.bind ?_ (fun _ => ?_))
      | exact ih0 _ _ _ _
      | exact ih1 _ _ _ _
      | exact ih2 _ _ _ _
      | exact caravanlaw1_awake.mono _
      | exact slot_Of.mono _ _
      | exact slot_One.mono _ _
      | exact LeO.none _
      | refine LeO.ite ?_ ?_
      | refine LeO.bind ?_ (fun _ => ?_)
    · intro y0 y1 y2 y3
      unfold caravanlaw1_SlotTags.l1
      repeat' first
      | (with_reducible exact ih0 _ _ _ _)
      | (with_reducible exact ih1 _ _ _ _)
      | (with_reducible exact ih2 _ _ _ _)
      | (with_reducible exact caravanlaw1_awake.mono _)
      | (with_reducible exact slot_Of.mono _ _)
      | (with_reducible exact slot_One.mono _ _)
      | (with_reducible exact LeO.refl _)
      | (with_reducible exact LeO.none _)
      | (with_reducible refine LeO.ite ?_ ?_)
      | (with_reducible refine LeO.bind ?_ (fun _ => ?_))
      | exact ih0 _ _ _ _
      | exact ih1 _ _ _ _
      | exact ih2 _ _ _ _
      | exact caravanlaw1_awake.mono _
      | exact slot_Of.mono _ _
      | exact slot_One.mono _ _
      | exact LeO.none _
      | refine LeO.ite ?_ ?_
      | refine LeO.bind ?_ (fun _ => ?_)
theorem caravanlaw1_SlotTags.mono : ∀ a0 a1 a2 k, LeO (caravanlaw1_SlotTags.f k a0 a1 a2) (caravanlaw1_SlotTags.f (k + 1) a0 a1 a2) := by
  intro a0 a1 a2 k
  obtain ⟨ih0, ih1, ih2⟩ := caravanlaw1_SlotTags.mono_l k
  unfold caravanlaw1_SlotTags.f
  repeat' first
      | (with_reducible exact ih0 _ _ _ _)
      | (with_reducible exact ih1 _ _ _ _)
      | (with_reducible exact ih2 _ _ _ _)
      | (with_reducible exact caravanlaw1_awake.mono _)
      | (with_reducible exact slot_Of.mono _ _)
      | (with_reducible exact slot_One.mono _ _)
      | (with_reducible exact LeO.refl _)
      | (with_reducible exact LeO.none _)
      | (with_reducible refine LeO.ite ?_ ?_)
      | (with_reducible refine LeO.bind ?_ (fun _ => ?_))
      | exact ih0 _ _ _ _
      | exact ih1 _ _ _ _
      | exact ih2 _ _ _ _
      | exact caravanlaw1_awake.mono _
      | exact slot_Of.mono _ _
      | exact slot_One.mono _ _
      | exact LeO.none _
      | refine LeO.ite ?_ ?_
      | refine LeO.bind ?_ (fun _ => ?_)
set_option maxHeartbeats 8000000 in
set_option maxRecDepth 100000 in
theorem caravanlaw1_SlotTags.calls (k : Nat) (a0 : ByteArray) (a1 : ByteArray) (a2 : ByteArray) (r : Bool) (w : World) (h : caravanlaw1_SlotTags.f k a0 a1 a2 = some r) :
    Calls Try.prog 7 #[.string a0, .string a1, .string a2] w fun e w' => e = .returned (.bool r) ∧ Below w.heap.size w w' := by
  have HB := Aside0.mk (Below.refl w.heap.size w)
  have H : (if (a0.size : Int) > 60 then (caravanlaw1_SlotTags.j0 k a0 a1 a2 true) else (if (a1.size : Int) > 60 then (caravanlaw1_SlotTags.j0 k a0 a1 a2 true) else (if (a2.size : Int) > 60 then (caravanlaw1_SlotTags.j0 k a0 a1 a2 true) else (caravanlaw1_SlotTags.j0 k a0 a1 a2 (a0.toList == ([] : List UInt8)))))) = some r := h
  clear h
  have HC4 := Aside0.mk H
  clear H
  go_enter Try.func7, Try.ntmps7
  go_upto_region 1 with (fail)
  go_cut [27] (fun v27 wc => ∃ (kq : Nat) (x27_3 : Bool), v27 = .bool x27_3 ∧ Aside0 (caravanlaw1_SlotTags.j0 kq a0 a1 a2 x27_3 = some r) ∧ Aside0 (kq ≤ k) ∧ Aside0 (Below w.heap.size w wc))
  case first =>
    have H := HC4.out
    clear HC4
    by_cases c5 : (a0.size : Int) > 60
    · rw [if_pos c5] at H
      have c5b0 : decide (60 < (a0.size : Int)) = true := decide_eq_true c5
      have c5b1 : decide (60 < a0.size) = true := decide_eq_true (by omega)
      clear c5
      (first | rw [c5b0] | (simp only [i64_w, i32_w]; rw [c5b0]) | skip)
      have H' := Aside0.mk H
      clear H
      go_wp2
      go_meet
      case rel => exact ⟨_, (true), (by first | rfl | (simp; done) | (simp [*]; done)), H', ⟨by first | omega | exact Nat.le_refl _⟩, ⟨by repeat (first | (with_reducible first | exact HB.out | apply below_alloc | apply pw_below_drewN | apply below_drew1) | exact HB.out)⟩⟩
    · rw [if_neg c5] at H
      have c5b0 : decide (60 < (a0.size : Int)) = false := decide_eq_false c5
      have c5b1 : decide (60 < a0.size) = false := decide_eq_false (by omega)
      clear c5
      (first | rw [c5b0] | (simp only [i64_w, i32_w]; rw [c5b0]) | skip)
      by_cases c6 : (a1.size : Int) > 60
      · rw [if_pos c6] at H
        have c6b0 : decide (60 < (a1.size : Int)) = true := decide_eq_true c6
        have c6b1 : decide (60 < a1.size) = true := decide_eq_true (by omega)
        clear c6
        have H' := Aside0.mk H
        clear H
        go_wp2
        go_meet
        case rel => exact ⟨_, (true), (by first | rfl | (simp; done) | (simp [*]; done)), H', ⟨by first | omega | exact Nat.le_refl _⟩, ⟨by repeat (first | (with_reducible first | exact HB.out | apply below_alloc | apply pw_below_drewN | apply below_drew1) | exact HB.out)⟩⟩
      · rw [if_neg c6] at H
        have c6b0 : decide (60 < (a1.size : Int)) = false := decide_eq_false c6
        have c6b1 : decide (60 < a1.size) = false := decide_eq_false (by omega)
        clear c6
        by_cases c7 : (a2.size : Int) > 60
        · rw [if_pos c7] at H
          have c7b0 : decide (60 < (a2.size : Int)) = true := decide_eq_true c7
          have c7b1 : decide (60 < a2.size) = true := decide_eq_true (by omega)
          clear c7
          have H' := Aside0.mk H
          clear H
          go_wp2
          go_meet
          case rel => exact ⟨_, (true), (by first | rfl | (simp; done) | (simp [*]; done)), H', ⟨by first | omega | exact Nat.le_refl _⟩, ⟨by repeat (first | (with_reducible first | exact HB.out | apply below_alloc | apply pw_below_drewN | apply below_drew1) | exact HB.out)⟩⟩
        · rw [if_neg c7] at H
          have c7b0 : decide (60 < (a2.size : Int)) = false := decide_eq_false c7
          have c7b1 : decide (60 < a2.size) = false := decide_eq_false (by omega)
          clear c7
          have H' := Aside0.mk H
          clear H
          go_wp2
          go_meet
          case rel => exact ⟨_, ((a0.toList == ([] : List UInt8))), (by first | rfl | (simp; done) | (simp [*]; done)), H', ⟨by first | omega | exact Nat.le_refl _⟩, ⟨by repeat (first | (with_reducible first | exact HB.out | apply below_alloc | apply pw_below_drewN | apply below_drew1) | exact HB.out)⟩⟩
  case rest =>
    clear HC4
    try clear p2
    try clear c5
    try clear c5b0
    try clear c5b1
    try clear c6
    try clear c6b0
    try clear c6b1
    try clear c7
    try clear c7b0
    try clear c7b1
    obtain ⟨kq, x27_3, rfl, HA, HJ3, HB⟩ := hcut
    cases kq with
    | zero => exact absurd HA.out (by simp [caravanlaw1_SlotTags.j0])
    | succ kj3 =>
      have H := HA.out
      clear HA
      simp only [caravanlaw1_SlotTags.j0] at H
      by_cases c8 : x27_3 = true
      · subst c8
        have H1 : ((caravanlaw1_awake.f kj3).bind fun t132 => (some t132)) = some r := by rw [if_pos rfl] at H; exact H
        clear H
        have H := H1
        clear H1
        replace H := Option.bind_eq_some_iff.mp H
        obtain ⟨t132, A90, H⟩ := H
        replace H : (some t132) = some r := H
        have A9 := Aside0.mk A90
        clear A90
        obtain rfl := Option.some.inj H
        go_wp2_with (first | ((with_reducible refine gate_callee (f := 9) rfl ?_); refine goesL_ (some 28) rfl rfl Try.func9 (by kernel_rfl) rfl #[] rfl (by (try simp only [List.map_toArray, List.map_cons, List.map_nil]); first | done | rfl | (simp only [List.length_drop, List.length_take]; rfl)) ?_; (with_reducible refine (caravanlaw1_awake.calls kj3  t132 _ A9.out).mono ?_); rintro e w10 ⟨rfl, hb⟩; refine ⟨_, rfl, ?_⟩; have n0_ := Aside0.mk (below_step (by repeat (first | (with_reducible first | exact HB.out | apply below_alloc | apply pw_below_drewN | apply below_drew1) | exact HB.out)) hb); clear HB; have HB := n0_; clear n0_; (try clear hb); (try clear hb2); (try clear hk); (try clear hi)))
        go_ret
        exact ⟨by first | rfl | (simp [errW_none, errW_some] <;> rfl) | (simp [*, errW_none, errW_some] <;> rfl), by repeat (first | (with_reducible first | exact HB.out | apply below_alloc | apply pw_below_drewN | apply below_drew1) | exact HB.out)⟩
      · replace c8 := Bool.eq_false_iff.mpr c8
        subst c8
        have H1 : (caravanlaw1_SlotTags.l0 kj3 a0 a1 a2 0) = some r := by rw [if_neg (show ¬ (false = true) by decide)] at H; exact H
        clear H
        have H := H1
        clear H1
        have H' := Aside0.mk H
        clear H
        go_wp2
        go_loopg [7] kj3 (fun kq v7 w' => ∃ (x7_2 : Int), v7 = .int .i64 x7_2 ∧ Aside0 (caravanlaw1_SlotTags.l0 kq a0 a1 a2 x7_2 = some r) ∧ Aside0 (kq ≤ kj3) ∧ Aside0 (Below w.heap.size w w'))
        case atStart => exact ⟨(0), (by first | rfl | (simp; done) | (simp [*]; done)), H', ⟨Nat.le_refl _⟩, ⟨by repeat (first | (with_reducible first | exact HB.out | apply below_alloc | apply pw_below_drewN | apply below_drew1) | exact HB.out)⟩⟩
        case round =>
          clear H'
          try clear p2
          try clear c5
          try clear c5b0
          try clear c5b1
          try clear c6
          try clear c6b0
          try clear c6b1
          try clear c7
          try clear c7b0
          try clear c7b1
          try clear c8
          try clear c9
          try clear p2
          obtain ⟨x7_2, rfl, HA, HK2, HB⟩ := hrel
          cases gk with
          | zero => exact absurd HA.out (by simp [caravanlaw1_SlotTags.l0])
          | succ k2 =>
            have H := HA.out
            clear HA
            simp only [caravanlaw1_SlotTags.l0] at H
            by_cases c11 : x7_2 < (a0.size : Int)
            · rw [if_pos c11] at H
              have c11b0 : decide (x7_2 < (a0.size : Int)) = true := decide_eq_true c11
              clear c11
              by_cases c12 : 0 ≤ x7_2
              · rw [if_pos c12] at H
                have c12b0 : decide (0 ≤ x7_2) = true := decide_eq_true c12
                clear c12
                by_cases c14 : (bt a0 x7_2) = 125
                · rw [if_pos c14] at H
                  have c14b0 : ((bt a0 x7_2) == 125) = true := beq_iff_eq.mpr c14
                  have c14b1 : ((bt a0 x7_2) != 125) = false := bne_eq_false_iff_eq.mpr c14
                  clear c14
                  replace H := Option.bind_eq_some_iff.mp H
                  obtain ⟨t133, A150, H⟩ := H
                  replace H : (some t133) = some r := H
                  have A15 := Aside0.mk A150
                  clear A150
                  obtain rfl := Option.some.inj H
                  have p13 : 0 ≤ (x7_2 : Int) := of_decide_eq_true (by first | (with_reducible assumption) | assumption)
                  have q13 : x7_2 < (a0.size : Int) := of_decide_eq_true (by first | (with_reducible assumption) | assumption)
                  have hx13 := bt_at a0 x7_2
                  replace p13 := eq_true p13
                  replace q13 := eq_true q13
                  go_wp2_with (first | ((with_reducible refine gate_callee (f := 9) rfl ?_); refine goesL_ (some 39) rfl rfl Try.func9 (by kernel_rfl) rfl #[] rfl (by (try simp only [List.map_toArray, List.map_cons, List.map_nil]); first | done | rfl | (simp only [List.length_drop, List.length_take]; rfl)) ?_; (with_reducible refine (caravanlaw1_awake.calls k2  t133 _ A15.out).mono ?_); rintro e w16 ⟨rfl, hb⟩; refine ⟨_, rfl, ?_⟩; have n0_ := Aside0.mk (below_step (by repeat (first | (with_reducible first | exact HB.out | apply below_alloc | apply pw_below_drewN | apply below_drew1) | exact HB.out)) hb); clear HB; have HB := n0_; clear n0_; (try clear hb); (try clear hb2); (try clear hk); (try clear hi)))
                  go_ret
                  exact ⟨by first | rfl | (simp [errW_none, errW_some] <;> rfl) | (simp [*, errW_none, errW_some] <;> rfl), by repeat (first | (with_reducible first | exact HB.out | apply below_alloc | apply pw_below_drewN | apply below_drew1) | exact HB.out)⟩
                · rw [if_neg c14] at H
                  have c14b0 : ((bt a0 x7_2) == 125) = false := beq_eq_false_iff_ne.mpr c14
                  have c14b1 : ((bt a0 x7_2) != 125) = true := bne_iff_ne.mpr c14
                  have H' := Aside0.mk H
                  clear H
                  have p13 : 0 ≤ (x7_2 : Int) := of_decide_eq_true (by first | (with_reducible assumption) | assumption)
                  have q13 : x7_2 < (a0.size : Int) := of_decide_eq_true (by first | (with_reducible assumption) | assumption)
                  have hx13 := bt_at a0 x7_2
                  replace p13 := eq_true p13
                  replace q13 := eq_true q13
                  go_wp2
                  go_roundg k2
                  case measure => have := HJ3.out; have := HK2.out; omega
                  case rel => exact ⟨(wrap64 (x7_2 + 1)), (by first | rfl | (simp; done) | (simp [*]; done)), H', ⟨by have := HJ3.out; have := HK2.out; omega⟩, ⟨by repeat (first | (with_reducible first | exact HB.out | apply below_alloc | apply pw_below_drewN | apply below_drew1) | exact HB.out)⟩⟩
              · rw [if_neg c12] at H
                exact absurd H (by simp)
            · rw [if_neg c11] at H
              have c11b0 : decide (x7_2 < (a0.size : Int)) = false := decide_eq_false c11
              clear c11
              have H' := Aside0.mk H
              clear H
              go_wp2
              go_loopg [8] k2 (fun kq v8 w' => ∃ (x8_3 : Int), v8 = .int .i64 x8_3 ∧ Aside0 (caravanlaw1_SlotTags.l1 kq a0 a1 a2 x8_3 = some r) ∧ Aside0 (kq ≤ k2) ∧ Aside0 (Below w.heap.size w w'))
              case atStart => exact ⟨(0), (by first | rfl | (simp; done) | (simp [*]; done)), H', ⟨Nat.le_refl _⟩, ⟨by repeat (first | (with_reducible first | exact HB.out | apply below_alloc | apply pw_below_drewN | apply below_drew1) | exact HB.out)⟩⟩
              case round =>
                clear H'
                try clear c1
                try clear p1
                try clear q1
                try clear hx1
                try clear p2
                try clear c5
                try clear c5b0
                try clear c5b1
                try clear c6
                try clear c6b0
                try clear c6b1
                try clear p6
                try clear c7
                try clear c7b0
                try clear c7b1
                try clear c8
                try clear c9
                try clear c11
                try clear c11b0
                try clear c12
                try clear c12b0
                try clear p13
                try clear q13
                try clear hx13
                try clear c14
                try clear c14b0
                try clear c14b1
                try clear p13
                try clear p2
                try clear q13
                obtain ⟨x8_3, rfl, HA, HK3, HB⟩ := hrel
                cases gk with
                | zero => exact absurd HA.out (by simp [caravanlaw1_SlotTags.l1])
                | succ k3 =>
                  have H := HA.out
                  clear HA
                  simp only [caravanlaw1_SlotTags.l1] at H
                  by_cases c17 : x8_3 < (a1.size : Int)
                  · rw [if_pos c17] at H
                    have c17b0 : decide (x8_3 < (a1.size : Int)) = true := decide_eq_true c17
                    clear c17
                    by_cases c18 : 0 ≤ x8_3
                    · rw [if_pos c18] at H
                      have c18b0 : decide (0 ≤ x8_3) = true := decide_eq_true c18
                      clear c18
                      by_cases c20 : (bt a1 x8_3) = 123
                      · rw [if_pos c20] at H
                        have c20b0 : ((bt a1 x8_3) == 123) = true := beq_iff_eq.mpr c20
                        have c20b1 : ((bt a1 x8_3) != 123) = false := bne_eq_false_iff_eq.mpr c20
                        clear c20
                        replace H := Option.bind_eq_some_iff.mp H
                        obtain ⟨t134, A210, H⟩ := H
                        replace H : (some t134) = some r := H
                        have A21 := Aside0.mk A210
                        clear A210
                        obtain rfl := Option.some.inj H
                        have p19 : 0 ≤ (x8_3 : Int) := of_decide_eq_true (by first | (with_reducible assumption) | assumption)
                        have q19 : x8_3 < (a1.size : Int) := of_decide_eq_true (by first | (with_reducible assumption) | assumption)
                        have hx19 := bt_at a1 x8_3
                        replace p19 := eq_true p19
                        replace q19 := eq_true q19
                        go_wp2_with (first | ((with_reducible refine gate_callee (f := 9) rfl ?_); refine goesL_ (some 50) rfl rfl Try.func9 (by kernel_rfl) rfl #[] rfl (by (try simp only [List.map_toArray, List.map_cons, List.map_nil]); first | done | rfl | (simp only [List.length_drop, List.length_take]; rfl)) ?_; (with_reducible refine (caravanlaw1_awake.calls k3  t134 _ A21.out).mono ?_); rintro e w22 ⟨rfl, hb⟩; refine ⟨_, rfl, ?_⟩; have n0_ := Aside0.mk (below_step (by repeat (first | (with_reducible first | exact HB.out | apply below_alloc | apply pw_below_drewN | apply below_drew1) | exact HB.out)) hb); clear HB; have HB := n0_; clear n0_; (try clear hb); (try clear hb2); (try clear hk); (try clear hi)))
                        go_ret
                        exact ⟨by first | rfl | (simp [errW_none, errW_some] <;> rfl) | (simp [*, errW_none, errW_some] <;> rfl), by repeat (first | (with_reducible first | exact HB.out | apply below_alloc | apply pw_below_drewN | apply below_drew1) | exact HB.out)⟩
                      · rw [if_neg c20] at H
                        have c20b0 : ((bt a1 x8_3) == 123) = false := beq_eq_false_iff_ne.mpr c20
                        have c20b1 : ((bt a1 x8_3) != 123) = true := bne_iff_ne.mpr c20
                        have H' := Aside0.mk H
                        clear H
                        have p19 : 0 ≤ (x8_3 : Int) := of_decide_eq_true (by first | (with_reducible assumption) | assumption)
                        have q19 : x8_3 < (a1.size : Int) := of_decide_eq_true (by first | (with_reducible assumption) | assumption)
                        have hx19 := bt_at a1 x8_3
                        replace p19 := eq_true p19
                        replace q19 := eq_true q19
                        go_wp2
                        go_roundg k3
                        case measure => have := HJ3.out; have := HK2.out; have := HK3.out; omega
                        case rel => exact ⟨(wrap64 (x8_3 + 1)), (by first | rfl | (simp; done) | (simp [*]; done)), H', ⟨by have := HJ3.out; have := HK2.out; have := HK3.out; omega⟩, ⟨by repeat (first | (with_reducible first | exact HB.out | apply below_alloc | apply pw_below_drewN | apply below_drew1) | exact HB.out)⟩⟩
                    · rw [if_neg c18] at H
                      exact absurd H (by simp)
                  · rw [if_neg c17] at H
                    have c17b0 : decide (x8_3 < (a1.size : Int)) = false := decide_eq_false c17
                    clear c17
                    by_cases c23 : 1 + a0.size ≤ 9223372036854775807
                    · rw [if_pos c23] at H
                      have c23b0 := eq_true c23
                      have c23b1 : decide (1 + a0.size ≤ 9223372036854775807) = true := decide_eq_true c23
                      try have c23b2 : (9223372036854775807 < 1 + a0.size) = False := eq_false (Nat.not_lt.2 c23)
                      by_cases c24 : ((⟨#[123]⟩ : ByteArray) ++ a0).size + 1 ≤ 9223372036854775807
                      · rw [if_pos c24] at H
                        have c24b0 := eq_true c24
                        have c24b1 : decide (((⟨#[123]⟩ : ByteArray) ++ a0).size + 1 ≤ 9223372036854775807) = true := decide_eq_true c24
                        try have c24b2 : (9223372036854775807 < ((⟨#[123]⟩ : ByteArray) ++ a0).size + 1) = False := eq_false (Nat.not_lt.2 c24)
                        by_cases c25 : a1.size + 1 ≤ 9223372036854775807
                        · rw [if_pos c25] at H
                          have c25b0 := eq_true c25
                          have c25b1 : decide (a1.size + 1 ≤ 9223372036854775807) = true := decide_eq_true c25
                          try have c25b2 : (9223372036854775807 < a1.size + 1) = False := eq_false (Nat.not_lt.2 c25)
                          by_cases c26 : (a1 ++ (⟨#[123]⟩ : ByteArray)).size + a0.size ≤ 9223372036854775807
                          · rw [if_pos c26] at H
                            have c26b0 := eq_true c26
                            have c26b1 : decide ((a1 ++ (⟨#[123]⟩ : ByteArray)).size + a0.size ≤ 9223372036854775807) = true := decide_eq_true c26
                            try have c26b2 : (9223372036854775807 < (a1 ++ (⟨#[123]⟩ : ByteArray)).size + a0.size) = False := eq_false (Nat.not_lt.2 c26)
                            by_cases c27 : ((a1 ++ (⟨#[123]⟩ : ByteArray)) ++ a0).size + 1 ≤ 9223372036854775807
                            · rw [if_pos c27] at H
                              have c27b0 := eq_true c27
                              have c27b1 : decide (((a1 ++ (⟨#[123]⟩ : ByteArray)) ++ a0).size + 1 ≤ 9223372036854775807) = true := decide_eq_true c27
                              try have c27b2 : (9223372036854775807 < ((a1 ++ (⟨#[123]⟩ : ByteArray)) ++ a0).size + 1) = False := eq_false (Nat.not_lt.2 c27)
                              by_cases c28 : (((a1 ++ (⟨#[123]⟩ : ByteArray)) ++ a0) ++ (⟨#[125]⟩ : ByteArray)).size + a2.size ≤ 9223372036854775807
                              · rw [if_pos c28] at H
                                have c28b0 := eq_true c28
                                have c28b1 : decide ((((a1 ++ (⟨#[123]⟩ : ByteArray)) ++ a0) ++ (⟨#[125]⟩ : ByteArray)).size + a2.size ≤ 9223372036854775807) = true := decide_eq_true c28
                                try have c28b2 : (9223372036854775807 < (((a1 ++ (⟨#[123]⟩ : ByteArray)) ++ a0) ++ (⟨#[125]⟩ : ByteArray)).size + a2.size) = False := eq_false (Nat.not_lt.2 c28)
                                obtain ⟨y135, hy135⟩ : ∃ y_ : List ByteArray, y_ = (([((⟨#[123]⟩ : ByteArray) ++ a0) ++ (⟨#[125]⟩ : ByteArray), (((a1 ++ (⟨#[123]⟩ : ByteArray)) ++ a0) ++ (⟨#[125]⟩ : ByteArray)) ++ a2] : List ByteArray)) := ⟨_, rfl⟩
                                replace H : ((slot_One.f k3 y135).bind fun bt138 => (if bt138.2 = true then ((slot_Of.f k3 (((⟨#[123]⟩ : ByteArray) ++ a0) ++ (⟨#[125]⟩ : ByteArray))).bind fun t140 => (if bt138.1 = t140 then ((slot_Tag.f ((((a1 ++ (⟨#[123]⟩ : ByteArray)) ++ a0) ++ (⟨#[125]⟩ : ByteArray)) ++ a2)).bind fun t141 => (if t141.toList = a0.toList then (if a1.size + 2 ≤ 9223372036854775807 then (if (a1 ++ (⟨#[123, 125]⟩ : ByteArray)).size + a2.size ≤ 9223372036854775807 then ((slot_Tag.f ((a1 ++ (⟨#[123, 125]⟩ : ByteArray)) ++ a2)).bind fun t142 => (if t142.toList = ((a1 ++ (⟨#[123, 125]⟩ : ByteArray)) ++ a2).toList then ((slot_Tag.f ((a1 ++ (⟨#[123]⟩ : ByteArray)) ++ a0)).bind fun t143 => (if t143.toList = ((a1 ++ (⟨#[123]⟩ : ByteArray)) ++ a0).toList then ((caravanlaw1_awake.f k3).bind fun t144 => (some t144)) else (none))) else (none))) else (none)) else (none)) else (none))) else (none))) else (none))) = some r := by first | (rw [hy135]; with_reducible exact H) | (have H2_ := (Option.bind_some _ _).symm.trans H; rw [hy135]; with_reducible exact H2_) | (have H2_ := (Option.bind_some _ _).symm.trans H; with_reducible exact H2_) | with_reducible exact H | (rw [hy135]; exact H) | exact H
                                have Ny135 := Aside0.mk hy135
                                clear hy135
                                replace H := Option.bind_eq_some_iff.mp H
                                obtain ⟨⟨t138, t139⟩, A290, H⟩ := H
                                replace H : (if t139 = true then ((slot_Of.f k3 (((⟨#[123]⟩ : ByteArray) ++ a0) ++ (⟨#[125]⟩ : ByteArray))).bind fun t140 => (if t138 = t140 then ((slot_Tag.f ((((a1 ++ (⟨#[123]⟩ : ByteArray)) ++ a0) ++ (⟨#[125]⟩ : ByteArray)) ++ a2)).bind fun t141 => (if t141.toList = a0.toList then (if a1.size + 2 ≤ 9223372036854775807 then (if (a1 ++ (⟨#[123, 125]⟩ : ByteArray)).size + a2.size ≤ 9223372036854775807 then ((slot_Tag.f ((a1 ++ (⟨#[123, 125]⟩ : ByteArray)) ++ a2)).bind fun t142 => (if t142.toList = ((a1 ++ (⟨#[123, 125]⟩ : ByteArray)) ++ a2).toList then ((slot_Tag.f ((a1 ++ (⟨#[123]⟩ : ByteArray)) ++ a0)).bind fun t143 => (if t143.toList = ((a1 ++ (⟨#[123]⟩ : ByteArray)) ++ a0).toList then ((caravanlaw1_awake.f k3).bind fun t144 => (some t144)) else (none))) else (none))) else (none)) else (none)) else (none))) else (none))) else (none)) = some r := H
                                have A29 := Aside0.mk A290
                                clear A290
                                by_cases c30 : t139 = true
                                · subst c30
                                  have H1 : ((slot_Of.f k3 (((⟨#[123]⟩ : ByteArray) ++ a0) ++ (⟨#[125]⟩ : ByteArray))).bind fun t140 => (if t138 = t140 then ((slot_Tag.f ((((a1 ++ (⟨#[123]⟩ : ByteArray)) ++ a0) ++ (⟨#[125]⟩ : ByteArray)) ++ a2)).bind fun t141 => (if t141.toList = a0.toList then (if a1.size + 2 ≤ 9223372036854775807 then (if (a1 ++ (⟨#[123, 125]⟩ : ByteArray)).size + a2.size ≤ 9223372036854775807 then ((slot_Tag.f ((a1 ++ (⟨#[123, 125]⟩ : ByteArray)) ++ a2)).bind fun t142 => (if t142.toList = ((a1 ++ (⟨#[123, 125]⟩ : ByteArray)) ++ a2).toList then ((slot_Tag.f ((a1 ++ (⟨#[123]⟩ : ByteArray)) ++ a0)).bind fun t143 => (if t143.toList = ((a1 ++ (⟨#[123]⟩ : ByteArray)) ++ a0).toList then ((caravanlaw1_awake.f k3).bind fun t144 => (some t144)) else (none))) else (none))) else (none)) else (none)) else (none))) else (none))) = some r := by rw [if_pos rfl] at H; exact H
                                  clear H
                                  have H := H1
                                  clear H1
                                  replace H := Option.bind_eq_some_iff.mp H
                                  obtain ⟨t140, A310, H⟩ := H
                                  replace H : (if t138 = t140 then ((slot_Tag.f ((((a1 ++ (⟨#[123]⟩ : ByteArray)) ++ a0) ++ (⟨#[125]⟩ : ByteArray)) ++ a2)).bind fun t141 => (if t141.toList = a0.toList then (if a1.size + 2 ≤ 9223372036854775807 then (if (a1 ++ (⟨#[123, 125]⟩ : ByteArray)).size + a2.size ≤ 9223372036854775807 then ((slot_Tag.f ((a1 ++ (⟨#[123, 125]⟩ : ByteArray)) ++ a2)).bind fun t142 => (if t142.toList = ((a1 ++ (⟨#[123, 125]⟩ : ByteArray)) ++ a2).toList then ((slot_Tag.f ((a1 ++ (⟨#[123]⟩ : ByteArray)) ++ a0)).bind fun t143 => (if t143.toList = ((a1 ++ (⟨#[123]⟩ : ByteArray)) ++ a0).toList then ((caravanlaw1_awake.f k3).bind fun t144 => (some t144)) else (none))) else (none))) else (none)) else (none)) else (none))) else (none)) = some r := H
                                  have A31 := Aside0.mk A310
                                  clear A310
                                  by_cases c32 : t138 = t140
                                  · rw [if_pos c32] at H
                                    have c32b0 : (t138 == t140) = true := beq_iff_eq.mpr c32
                                    have c32b1 : (t138 != t140) = false := bne_eq_false_iff_eq.mpr c32
                                    clear c32
                                    replace H := Option.bind_eq_some_iff.mp H
                                    obtain ⟨t141, A330, H⟩ := H
                                    replace H : (if t141.toList = a0.toList then (if a1.size + 2 ≤ 9223372036854775807 then (if (a1 ++ (⟨#[123, 125]⟩ : ByteArray)).size + a2.size ≤ 9223372036854775807 then ((slot_Tag.f ((a1 ++ (⟨#[123, 125]⟩ : ByteArray)) ++ a2)).bind fun t142 => (if t142.toList = ((a1 ++ (⟨#[123, 125]⟩ : ByteArray)) ++ a2).toList then ((slot_Tag.f ((a1 ++ (⟨#[123]⟩ : ByteArray)) ++ a0)).bind fun t143 => (if t143.toList = ((a1 ++ (⟨#[123]⟩ : ByteArray)) ++ a0).toList then ((caravanlaw1_awake.f k3).bind fun t144 => (some t144)) else (none))) else (none))) else (none)) else (none)) else (none)) = some r := H
                                    have A33 := Aside0.mk A330
                                    clear A330
                                    by_cases c34 : t141.toList = a0.toList
                                    · rw [if_pos c34] at H
                                      have c34b0 : (t141.toList == a0.toList) = true := beq_iff_eq.mpr c34
                                      have c34b1 : (t141.toList != a0.toList) = false := bne_eq_false_iff_eq.mpr c34
                                      clear c34
                                      by_cases c35 : a1.size + 2 ≤ 9223372036854775807
                                      · rw [if_pos c35] at H
                                        have c35b0 := eq_true c35
                                        have c35b1 : decide (a1.size + 2 ≤ 9223372036854775807) = true := decide_eq_true c35
                                        try have c35b2 : (9223372036854775807 < a1.size + 2) = False := eq_false (Nat.not_lt.2 c35)
                                        by_cases c36 : (a1 ++ (⟨#[123, 125]⟩ : ByteArray)).size + a2.size ≤ 9223372036854775807
                                        · rw [if_pos c36] at H
                                          have c36b0 := eq_true c36
                                          have c36b1 : decide ((a1 ++ (⟨#[123, 125]⟩ : ByteArray)).size + a2.size ≤ 9223372036854775807) = true := decide_eq_true c36
                                          try have c36b2 : (9223372036854775807 < (a1 ++ (⟨#[123, 125]⟩ : ByteArray)).size + a2.size) = False := eq_false (Nat.not_lt.2 c36)
                                          replace H := Option.bind_eq_some_iff.mp H
                                          obtain ⟨t142, A370, H⟩ := H
                                          replace H : (if t142.toList = ((a1 ++ (⟨#[123, 125]⟩ : ByteArray)) ++ a2).toList then ((slot_Tag.f ((a1 ++ (⟨#[123]⟩ : ByteArray)) ++ a0)).bind fun t143 => (if t143.toList = ((a1 ++ (⟨#[123]⟩ : ByteArray)) ++ a0).toList then ((caravanlaw1_awake.f k3).bind fun t144 => (some t144)) else (none))) else (none)) = some r := H
                                          have A37 := Aside0.mk A370
                                          clear A370
                                          by_cases c38 : t142.toList = ((a1 ++ (⟨#[123, 125]⟩ : ByteArray)) ++ a2).toList
                                          · rw [if_pos c38] at H
                                            have c38b0 : (t142.toList == ((a1 ++ (⟨#[123, 125]⟩ : ByteArray)) ++ a2).toList) = true := beq_iff_eq.mpr c38
                                            have c38b1 : (t142.toList != ((a1 ++ (⟨#[123, 125]⟩ : ByteArray)) ++ a2).toList) = false := bne_eq_false_iff_eq.mpr c38
                                            clear c38
                                            replace H := Option.bind_eq_some_iff.mp H
                                            obtain ⟨t143, A390, H⟩ := H
                                            replace H : (if t143.toList = ((a1 ++ (⟨#[123]⟩ : ByteArray)) ++ a0).toList then ((caravanlaw1_awake.f k3).bind fun t144 => (some t144)) else (none)) = some r := H
                                            have A39 := Aside0.mk A390
                                            clear A390
                                            by_cases c40 : t143.toList = ((a1 ++ (⟨#[123]⟩ : ByteArray)) ++ a0).toList
                                            · rw [if_pos c40] at H
                                              have c40b0 : (t143.toList == ((a1 ++ (⟨#[123]⟩ : ByteArray)) ++ a0).toList) = true := beq_iff_eq.mpr c40
                                              have c40b1 : (t143.toList != ((a1 ++ (⟨#[123]⟩ : ByteArray)) ++ a0).toList) = false := bne_eq_false_iff_eq.mpr c40
                                              clear c40
                                              replace H := Option.bind_eq_some_iff.mp H
                                              obtain ⟨t144, A410, H⟩ := H
                                              replace H : (some t144) = some r := H
                                              have A41 := Aside0.mk A410
                                              clear A410
                                              obtain rfl := Option.some.inj H
                                              have S1_ : (⟨#[123]⟩ : ByteArray).size = 1 := rfl
                                              have S2_ : (⟨#[125]⟩ : ByteArray).size = 1 := rfl
                                              have S3_ : (⟨#[123, 125]⟩ : ByteArray).size = 2 := rfl
                                              (try (have qc23_ := c23b2; simp only [ByteArray.size_append, S1_, S2_, S3_] at qc23_))
                                              (try (have qc24_ := c24b2; simp only [ByteArray.size_append, S1_, S2_, S3_] at qc24_))
                                              (try (have qc25_ := c25b2; simp only [ByteArray.size_append, S1_, S2_, S3_] at qc25_))
                                              (try (have qc26_ := c26b2; simp only [ByteArray.size_append, S1_, S2_, S3_] at qc26_))
                                              (try (have qc27_ := c27b2; simp only [ByteArray.size_append, S1_, S2_, S3_] at qc27_))
                                              (try (have qc28_ := c28b2; simp only [ByteArray.size_append, S1_, S2_, S3_] at qc28_))
                                              (try (have qc35_ := c35b2; simp only [ByteArray.size_append, S1_, S2_, S3_] at qc35_))
                                              (try (have qc36_ := c36b2; simp only [ByteArray.size_append, S1_, S2_, S3_] at qc36_))
                                              clear S1_ S2_ S3_
                                              go_wp2_with (first | ((with_reducible refine gate_dst (N := 62) rfl ?_); (try (refine gate_guard (by rfl) ?_; dsimp only)); refine Kd.R_lit Kd.string _ 9 ?hg (N := 62) ?hd (xs := ([((⟨#[123]⟩ : ByteArray) ++ a0) ++ (⟨#[125]⟩ : ByteArray), (((a1 ++ (⟨#[123]⟩ : ByteArray)) ++ a0) ++ (⟨#[125]⟩ : ByteArray)) ++ a2] : List ByteArray)) (inner := [.string (((⟨#[123]⟩ : ByteArray) ++ a0) ++ (⟨#[125]⟩ : ByteArray)), .string ((((a1 ++ (⟨#[123]⟩ : ByteArray)) ++ a0) ++ (⟨#[125]⟩ : ByteArray)) ++ a2)]) (ok := fun _ => True) (okp := fun _ => True) ?hr ?hp (fun _ hk => hk) trivial (Below.refl _ _) (Nat.le_refl _) (by simp) ?_; (case hd => rfl); (case hg => rfl); (case hr => first | (go_simp; done) | (go_simp; rfl)); (case hp => exact (Reps.one (show Kd.M Kd.string _ _ _ (((⟨#[123]⟩ : ByteArray) ++ a0) ++ (⟨#[125]⟩ : ByteArray)) [.string (((⟨#[123]⟩ : ByteArray) ++ a0) ++ (⟨#[125]⟩ : ByteArray))] from rfl) (Reps.one (show Kd.M Kd.string _ _ _ ((((a1 ++ (⟨#[123]⟩ : ByteArray)) ++ a0) ++ (⟨#[125]⟩ : ByteArray)) ++ a2) [.string ((((a1 ++ (⟨#[123]⟩ : ByteArray)) ++ a0) ++ (⟨#[125]⟩ : ByteArray)) ++ a2)] from rfl) (Reps.none _ _)))); intro v136 w42 ho43 hb hg_ hnew_; clear hg_ hnew_; (first | rw [← Ny135.out] at ho43 | (simp only [Int.reduceToNat] at ho43; rw [← Ny135.out] at ho43)); have n0_ := Aside0.mk (Kd.R_lower ho43 (below_size (by repeat (first | (with_reducible first | exact HB.out | apply below_alloc | apply pw_below_drewN | apply below_drew1) | exact HB.out)))); have n1_ := Aside0.mk (below_step (by repeat (first | (with_reducible first | exact HB.out | apply below_alloc | apply pw_below_drewN | apply below_drew1) | exact HB.out)) hb); clear HB; have HO137 := n0_; have HB := n1_; clear n0_ n1_; clear hb ho43; obtain ⟨Ao44, co44, eo44⟩ := Kd.R_slice HO137.out; subst eo44) | ((with_reducible refine gate_callee (f := 16) rfl ?_); refine goesL_ (some 63) rfl rfl Try.func16 (by kernel_rfl) rfl #[.slice Ao44 y135.length co44] rfl (by (try simp only [List.map_toArray, List.map_cons, List.map_nil]); first | done | rfl | (simp only [List.length_drop, List.length_take]; rfl)) ?_; (with_reducible refine (slot_One.calls k3 _ _ y135 t138 true _ ?side1 ?side2 A29.out).mono ?_); (case side1 => repeat (first | exact (Kd.R_reads' HO137.out).2.2 | (with_reducible refine Kd.C_alloc ?_ _) | (with_reducible refine Kd.C_drewN ?_ _) | (with_reducible refine Kd.C_drew ?_))); (case side2 => exact (Kd.R_reads' HO137.out).2.1); rintro e w45 ⟨rfl, hb⟩; refine ⟨_, rfl, ?_⟩; have n0_ := Aside0.mk (Kd.R_below (by (with_reducible repeat (first | apply Kd.R_alloc | apply Kd.R_drewN | apply Kd.R_drew)); exact HO137.out) hb); have n1_ := Aside0.mk (below_step (by repeat (first | (with_reducible first | exact HB.out | apply below_alloc | apply pw_below_drewN | apply below_drew1) | exact HB.out)) hb); clear HO137; clear HB; have HO137 := n0_; have HB := n1_; clear n0_ n1_; (try clear hb); (try clear hb2); (try clear hk); (try clear hi)) | ((with_reducible refine gate_dst (N := 72) rfl ?_); (try (refine gate_guard (by rfl) ?_; dsimp only)); (try (refine gate_guard (by rfl) ?_; dsimp only)); refine goesL_ (some 72) rfl rfl Try.func14 (by kernel_rfl) rfl #[.string (((⟨#[123]⟩ : ByteArray) ++ a0) ++ (⟨#[125]⟩ : ByteArray))] rfl (by (try simp only [List.map_toArray, List.map_cons, List.map_nil]); first | done | rfl | (simp only [List.length_drop, List.length_take]; rfl)) ?_; (with_reducible refine (slot_Of.calls k3 (((⟨#[123]⟩ : ByteArray) ++ a0) ++ (⟨#[125]⟩ : ByteArray)) t140 _ A31.out).mono ?_); rintro e w46 ⟨rfl, hb⟩; refine ⟨_, rfl, ?_⟩; have n0_ := Aside0.mk (Kd.R_below (by (with_reducible repeat (first | apply Kd.R_alloc | apply Kd.R_drewN | apply Kd.R_drew)); exact HO137.out) hb); have n1_ := Aside0.mk (below_step (by repeat (first | (with_reducible first | exact HB.out | apply below_alloc | apply pw_below_drewN | apply below_drew1) | exact HB.out)) hb); clear HO137; clear HB; have HO137 := n0_; have HB := n1_; clear n0_ n1_; (try clear hb); (try clear hb2); (try clear hk); (try clear hi)) | ((with_reducible refine gate_dst (N := 83) rfl ?_); (try (refine gate_guard (by rfl) ?_; dsimp only)); (try (refine gate_guard (by rfl) ?_; dsimp only)); refine goesL_ (some 83) rfl rfl Try.func12 (by kernel_rfl) rfl #[.string ((((a1 ++ (⟨#[123]⟩ : ByteArray)) ++ a0) ++ (⟨#[125]⟩ : ByteArray)) ++ a2)] rfl (by (try simp only [List.map_toArray, List.map_cons, List.map_nil]); first | done | rfl | (simp only [List.length_drop, List.length_take]; rfl)) ?_; (with_reducible refine (slot_Tag.calls ((((a1 ++ (⟨#[123]⟩ : ByteArray)) ++ a0) ++ (⟨#[125]⟩ : ByteArray)) ++ a2) t141 _ A33.out).mono ?_); rintro e w' ⟨rfl, ⟨nd, rfl⟩⟩; refine ⟨_, rfl, ?_⟩) | ((with_reducible refine gate_dst (N := 92) rfl ?_); (try (refine gate_guard (by rfl) ?_; dsimp only)); (try (refine gate_guard (by rfl) ?_; dsimp only)); refine goesL_ (some 92) rfl rfl Try.func12 (by kernel_rfl) rfl #[.string ((a1 ++ (⟨#[123, 125]⟩ : ByteArray)) ++ a2)] rfl (by (try simp only [List.map_toArray, List.map_cons, List.map_nil]); first | done | rfl | (simp only [List.length_drop, List.length_take]; rfl)) ?_; (with_reducible refine (slot_Tag.calls ((a1 ++ (⟨#[123, 125]⟩ : ByteArray)) ++ a2) t142 _ A37.out).mono ?_); rintro e w' ⟨rfl, ⟨nd, rfl⟩⟩; refine ⟨_, rfl, ?_⟩) | ((with_reducible refine gate_dst (N := 104) rfl ?_); (try (refine gate_guard (by rfl) ?_; dsimp only)); (try (refine gate_guard (by rfl) ?_; dsimp only)); refine goesL_ (some 104) rfl rfl Try.func12 (by kernel_rfl) rfl #[.string ((a1 ++ (⟨#[123]⟩ : ByteArray)) ++ a0)] rfl (by (try simp only [List.map_toArray, List.map_cons, List.map_nil]); first | done | rfl | (simp only [List.length_drop, List.length_take]; rfl)) ?_; (with_reducible refine (slot_Tag.calls ((a1 ++ (⟨#[123]⟩ : ByteArray)) ++ a0) t143 _ A39.out).mono ?_); rintro e w' ⟨rfl, ⟨nd, rfl⟩⟩; refine ⟨_, rfl, ?_⟩) | ((with_reducible refine gate_dst (N := 112) rfl ?_); (try (refine gate_guard (by rfl) ?_; dsimp only)); (try (refine gate_guard (by rfl) ?_; dsimp only)); refine goesL_ (some 112) rfl rfl Try.func9 (by kernel_rfl) rfl #[] rfl (by (try simp only [List.map_toArray, List.map_cons, List.map_nil]); first | done | rfl | (simp only [List.length_drop, List.length_take]; rfl)) ?_; (with_reducible refine (caravanlaw1_awake.calls k3  t144 _ A41.out).mono ?_); rintro e w47 ⟨rfl, hb⟩; refine ⟨_, rfl, ?_⟩; have n0_ := Aside0.mk (Kd.R_below (by (with_reducible repeat (first | apply Kd.R_alloc | apply Kd.R_drewN | apply Kd.R_drew)); exact HO137.out) hb); have n1_ := Aside0.mk (below_step (by repeat (first | (with_reducible first | exact HB.out | apply below_alloc | apply pw_below_drewN | apply below_drew1) | exact HB.out)) hb); clear HO137; clear HB; have HO137 := n0_; have HB := n1_; clear n0_ n1_; (try clear hb); (try clear hb2); (try clear hk); (try clear hi)))
                                              go_ret
                                              exact ⟨by first | rfl | (simp [errW_none, errW_some] <;> rfl) | (simp [*, errW_none, errW_some] <;> rfl), by repeat (first | (with_reducible first | exact HB.out | apply below_alloc | apply pw_below_drewN | apply below_drew1) | exact HB.out)⟩
                                            · rw [if_neg c40] at H
                                              exact absurd H (by simp)
                                          · rw [if_neg c38] at H
                                            exact absurd H (by simp)
                                        · rw [if_neg c36] at H
                                          exact absurd H (by simp)
                                      · rw [if_neg c35] at H
                                        exact absurd H (by simp)
                                    · rw [if_neg c34] at H
                                      exact absurd H (by simp)
                                  · rw [if_neg c32] at H
                                    exact absurd H (by simp)
                                · replace c30 := Bool.eq_false_iff.mpr c30
                                  subst c30
                                  have H1 : (none) = some r := by rw [if_neg (show ¬ (false = true) by decide)] at H; exact H
                                  clear H
                                  have H := H1
                                  clear H1
                                  exact absurd H (by simp)
                              · rw [if_neg c28] at H
                                exact absurd H (by simp)
                            · rw [if_neg c27] at H
                              exact absurd H (by simp)
                          · rw [if_neg c26] at H
                            exact absurd H (by simp)
                        · rw [if_neg c25] at H
                          exact absurd H (by simp)
                      · rw [if_neg c24] at H
                        exact absurd H (by simp)
                    · rw [if_neg c23] at H
                      exact absurd H (by simp)

/-- THE ONE PURE STATEMENT of caravanlaw1_SlotTags: yours. -/
def caravanlaw1_SlotTags.Pure : Prop := ∀ (a0 : ByteArray) (a1 : ByteArray) (a2 : ByteArray), a0.size ≤ 140737488351232 → a1.size ≤ 140737488351232 → a2.size ≤ 140737488351232 → ∃ k, caravanlaw1_SlotTags.f k a0 a1 a2 = some true
theorem caravanlaw1_SlotTags.walk (P : caravanlaw1_SlotTags.Pure) (a0 : ByteArray) (a1 : ByteArray) (a2 : ByteArray) (w : World) (w0 : a0.size ≤ 140737488351232) (w1 : a1.size ≤ 140737488351232) (w2 : a2.size ≤ 140737488351232) :
    Calls Try.prog 7 #[.string a0, .string a1, .string a2] w fun e w' => e = .returned (.bool true) ∧ Below w.heap.size w w' := by
  obtain ⟨k, h⟩ := P a0 a1 a2 w0 w1 w2
  refine (caravanlaw1_SlotTags.calls k a0 a1 a2 true w h).mono ?_
  rintro e w' ⟨rfl, hd⟩
  exact ⟨rfl, hd⟩

end Go.Proofs.Ytgbncimfkjfjcaa.SX

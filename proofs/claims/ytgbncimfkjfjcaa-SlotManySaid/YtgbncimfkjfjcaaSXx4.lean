/- The machine side of a law: what Go functions compute, as Lean functions, and the proofs of it. Conditions: none. (Written by wip/myprint.py of this session's repo.) -/
import Derived.Test.YtgbncimfkjfjcaaSXx0
import Derived.Test.YtgbncimfkjfjcaaSXx1
import Derived.Test.YtgbncimfkjfjcaaSXx2
namespace Go.Proofs.Ytgbncimfkjfjcaa.SX
open Go.RowKit Go.Proofs.YtgbncimfkjfjcaaW.PrintWords Go.Proofs.YtgbncimfkjfjcaaW.PrintLast Go.Proofs.YtgbncimfkjfjcaaW.PrintMore
attribute [local go_sem] max2_int min2_int max_two min_two max_three min_three max_four min_four   -- for this text's walks alone
set_option linter.unusedVariables false
set_option linter.unusedSimpArgs false

/-! ### caravanlaw1_SlotMany: function 8 -/
mutual
def caravanlaw1_SlotMany.j0 : Nat → ByteArray → Int → ByteArray → Int → Bool → Option (Bool)
  | 0, _, _, _, _, _ => none
  | k + 1, x0, x1, x2, x3, x24 => if x24 = true then ((caravanlaw1_awake.f k).bind fun t145 => (some t145)) else (caravanlaw1_SlotMany.l0 k x0 x1 x2 x3 ([] : List ByteArray) 0)
def caravanlaw1_SlotMany.l0 : Nat → ByteArray → Int → ByteArray → Int → List ByteArray → Int → Option (Bool)
  | 0, _, _, _, _, _, _ => none
  | k + 1, x0, x1, x2, x3, x9, x10 => if x10 < (wrap64 (1 + (Int.tmod (wrap64 (x1)) 6))) then (if x9.length < 8796093022208 then (caravanlaw1_SlotMany.l0 k x0 x1 x2 x3 (x9 ++ [x0]) (wrap64 (x10 + 1))) else (none)) else ((slot_One.f k x9).bind fun bt149 => (if bt149.2 = true then ((slot_Of.f k x0).bind fun t151 => (caravanlaw1_SlotMany.j2 k x0 x2 x3 x9 (bt149.1 != t151))) else (caravanlaw1_SlotMany.j2 k x0 x2 x3 x9 true)))
def caravanlaw1_SlotMany.j2 : Nat → ByteArray → ByteArray → Int → List ByteArray → Bool → Option (Bool)
  | 0, _, _, _, _, _ => none
  | k + 1, x0, x2, x3, x9, x50 => if x50 = true then (some false) else (if (x9.length : Int) = 0 then (none) else (if 0 ≤ (Int.tmod (wrap64 (x3)) (x9.length : Int)) then (if (Int.tmod (wrap64 (x3)) (x9.length : Int)) < (x9.length : Int) then ((slot_One.f k (x9.set ((Int.tmod (wrap64 (x3)) (x9.length : Int)) : Int).toNat x2)).bind fun bt153 => (if (x9.length : Int) = 1 then (if bt153.2 = true then ((slot_Of.f k x2).bind fun t155 => (if bt153.1 = t155 then ((caravanlaw1_awake.f k).bind fun t156 => (some t156)) else (none))) else (none)) else ((slot_One.f k ([] : List ByteArray)).bind fun bt157 => ((caravanref1_Slot.f k x2).bind fun t159 => ((caravanref1_Slot.f k x0).bind fun t160 => (if (bt153.2 == (t159 == t160)) = true then (if bt153.2 = true then (if bt157.2 = true then (none) else ((caravanlaw1_awake.f k).bind fun t161 => (some t161))) else (if bt153.1 = 0 then (if bt157.2 = true then (none) else ((caravanlaw1_awake.f k).bind fun t162 => (some t162))) else (none))) else (none))))))) else (none)) else (none)))
end
def caravanlaw1_SlotMany.f (k : Nat) (a0 : ByteArray) (a1 : Int) (a2 : ByteArray) (a3 : Int) : Option (Bool) := if (a0.size : Int) > 60 then (caravanlaw1_SlotMany.j0 k a0 a1 a2 a3 true) else (caravanlaw1_SlotMany.j0 k a0 a1 a2 a3 (decide ((a2.size : Int) > 60)))
theorem caravanlaw1_SlotMany.mono_l : ∀ k, (∀ y0 y1 y2 y3 y4, LeO (caravanlaw1_SlotMany.j0 k y0 y1 y2 y3 y4) (caravanlaw1_SlotMany.j0 (k + 1) y0 y1 y2 y3 y4)) ∧ (∀ y0 y1 y2 y3 y4 y5, LeO (caravanlaw1_SlotMany.l0 k y0 y1 y2 y3 y4 y5) (caravanlaw1_SlotMany.l0 (k + 1) y0 y1 y2 y3 y4 y5)) ∧ (∀ y0 y1 y2 y3 y4, LeO (caravanlaw1_SlotMany.j2 k y0 y1 y2 y3 y4) (caravanlaw1_SlotMany.j2 (k + 1) y0 y1 y2 y3 y4))
  | 0 => ⟨fun _ _ _ _ _ r h => by simp [caravanlaw1_SlotMany.j0] at h, fun _ _ _ _ _ _ r h => by simp [caravanlaw1_SlotMany.l0] at h, fun _ _ _ _ _ r h => by simp [caravanlaw1_SlotMany.j2] at h⟩
  | k + 1 => by
    obtain ⟨ih0, ih1, ih2⟩ := caravanlaw1_SlotMany.mono_l k
    refine ⟨?_, ?_, ?_⟩
    · intro y0 y1 y2 y3 y4
      unfold caravanlaw1_SlotMany.j0
      repeat' first
      | (with_reducible exact ih0 _ _ _ _ _)
      | (with_reducible exact ih1 _ _ _ _ _ _)
      | (with_reducible exact ih2 _ _ _ _ _)
      | (with_reducible exact caravanlaw1_awake.mono _)
      | (with_reducible exact caravanref1_Slot.mono _ _)
      | (with_reducible exact slot_Of.mono _ _)
      | (with_reducible exact slot_One.mono _ _)
      | (with_reducible exact LeO.refl _)
      | (with_reducible exact LeO.none _)
      | (with_reducible refine LeO.ite ?_ ?_)
      | (with_reducible refine LeO.bind ?_ (fun _ => ?_))
      | exact ih0 _ _ _ _ _
      | exact ih1 _ _ _ _ _ _
      | exact ih2 _ _ _ _ _
      | exact caravanlaw1_awake.mono _
      | exact caravanref1_Slot.mono _ _
      | exact slot_Of.mono _ _
      | exact slot_One.mono _ _
      | exact LeO.none _
      | refine LeO.ite ?_ ?_
      | refine LeO.bind ?_ (fun _ => ?_)
    · intro y0 y1 y2 y3 y4 y5
      unfold caravanlaw1_SlotMany.l0
      repeat' first
      | (with_reducible exact ih0 _ _ _ _ _)
      | (with_reducible exact ih1 _ _ _ _ _ _)
      | (with_reducible exact ih2 _ _ _ _ _)
      | (with_reducible exact caravanlaw1_awake.mono _)
      | (with_reducible exact caravanref1_Slot.mono _ _)
      | (with_reducible exact slot_Of.mono _ _)
      | (with_reducible exact slot_One.mono _ _)
      | (with_reducible exact LeO.refl _)
      | (with_reducible exact LeO.none _)
      | (with_reducible refine LeO.ite ?_ ?_)
      | (with_reducible refine LeO.bind ?_ (fun _ => ?_))
      | exact ih0 _ _ _ _ _
      | exact ih1 _ _ _ _ _ _
      | exact ih2 _ _ _ _ _
      | exact caravanlaw1_awake.mono _
      | exact caravanref1_Slot.mono _ _
      | exact slot_Of.mono _ _
      | exact slot_One.mono _ _
      | exact LeO.none _
      | refine LeO.ite ?_ ?_
      | refine LeO.bind ?_ (fun _ => ?_)
    · intro y0 y1 y2 y3 y4
      unfold caravanlaw1_SlotMany.j2
      repeat' first
      | (with_reducible exact ih0 _ _ _ _ _)
      | (with_reducible exact ih1 _ _ _ _ _ _)
      | (with_reducible exact ih2 _ _ _ _ _)
      | (with_reducible exact caravanlaw1_awake.mono _)
      | (with_reducible exact caravanref1_Slot.mono _ _)
      | (with_reducible exact slot_Of.mono _ _)
      | (with_reducible exact slot_One.mono _ _)
      | (with_reducible exact LeO.refl _)
      | (with_reducible exact LeO.none _)
      | (with_reducible refine LeO.ite ?_ ?_)
      | (with_reducible refine LeO.bind ?_ (fun _ => ?_))
      | exact ih0 _ _ _ _ _
      | exact ih1 _ _ _ _ _ _
      | exact ih2 _ _ _ _ _
      | exact caravanlaw1_awake.mono _
      | exact caravanref1_Slot.mono _ _
      | exact slot_Of.mono _ _
      | exact slot_One.mono _ _
      | exact LeO.none _
      | refine LeO.ite ?_ ?_
      | refine LeO.bind ?_ (fun _ => ?_)
theorem caravanlaw1_SlotMany.mono : ∀ a0 a1 a2 a3 k, LeO (caravanlaw1_SlotMany.f k a0 a1 a2 a3) (caravanlaw1_SlotMany.f (k + 1) a0 a1 a2 a3) := by
  intro a0 a1 a2 a3 k
  obtain ⟨ih0, ih1, ih2⟩ := caravanlaw1_SlotMany.mono_l k
  unfold caravanlaw1_SlotMany.f
  repeat' first
      | (with_reducible exact ih0 _ _ _ _ _)
      | (with_reducible exact ih1 _ _ _ _ _ _)
      | (with_reducible exact ih2 _ _ _ _ _)
      | (with_reducible exact caravanlaw1_awake.mono _)
      | (with_reducible exact caravanref1_Slot.mono _ _)
      | (with_reducible exact slot_Of.mono _ _)
      | (with_reducible exact slot_One.mono _ _)
      | (with_reducible exact LeO.refl _)
      | (with_reducible exact LeO.none _)
      | (with_reducible refine LeO.ite ?_ ?_)
      | (with_reducible refine LeO.bind ?_ (fun _ => ?_))
      | exact ih0 _ _ _ _ _
      | exact ih1 _ _ _ _ _ _
      | exact ih2 _ _ _ _ _
      | exact caravanlaw1_awake.mono _
      | exact caravanref1_Slot.mono _ _
      | exact slot_Of.mono _ _
      | exact slot_One.mono _ _
      | exact LeO.none _
      | refine LeO.ite ?_ ?_
      | refine LeO.bind ?_ (fun _ => ?_)
set_option maxHeartbeats 8000000 in
set_option maxRecDepth 100000 in
theorem caravanlaw1_SlotMany.calls (k : Nat) (a0 : ByteArray) (a1 : Int) (a2 : ByteArray) (a3 : Int) (r : Bool) (w : World) (h : caravanlaw1_SlotMany.f k a0 a1 a2 a3 = some r) :
    Calls Try.prog 8 #[.string a0, .int .u8 a1, .string a2, .int .u8 a3] w fun e w' => e = .returned (.bool r) ∧ Below w.heap.size w w' := by
  have HB := Aside0.mk (Below.refl w.heap.size w)
  have H : (if (a0.size : Int) > 60 then (caravanlaw1_SlotMany.j0 k a0 a1 a2 a3 true) else (caravanlaw1_SlotMany.j0 k a0 a1 a2 a3 (decide ((a2.size : Int) > 60)))) = some r := h
  clear h
  have HC5 := Aside0.mk H
  clear H
  go_enter Try.func8, Try.ntmps8
  go_upto_region 1 with (fail)
  go_cut [24] (fun v24 wc => ∃ (kq : Nat) (x24_4 : Bool), v24 = .bool x24_4 ∧ Aside0 (caravanlaw1_SlotMany.j0 kq a0 a1 a2 a3 x24_4 = some r) ∧ Aside0 (kq ≤ k) ∧ Aside0 (Below w.heap.size w wc))
  case first =>
    have H := HC5.out
    clear HC5
    by_cases c6 : (a0.size : Int) > 60
    · rw [if_pos c6] at H
      have c6b0 : decide (60 < (a0.size : Int)) = true := decide_eq_true c6
      have c6b1 : decide (60 < a0.size) = true := decide_eq_true (by omega)
      clear c6
      (first | rw [c6b0] | (simp only [i64_w, i32_w]; rw [c6b0]) | skip)
      have H' := Aside0.mk H
      clear H
      go_wp2
      go_meet
      case rel => exact ⟨_, (true), (by first | rfl | (simp; done) | (simp [*]; done)), H', ⟨by first | omega | exact Nat.le_refl _⟩, ⟨by repeat (first | (with_reducible first | exact HB.out | apply below_alloc | apply pw_below_drewN | apply below_drew1) | exact HB.out)⟩⟩
    · rw [if_neg c6] at H
      have c6b0 : decide (60 < (a0.size : Int)) = false := decide_eq_false c6
      have c6b1 : decide (60 < a0.size) = false := decide_eq_false (by omega)
      clear c6
      (first | rw [c6b0] | (simp only [i64_w, i32_w]; rw [c6b0]) | skip)
      have H' := Aside0.mk H
      clear H
      go_wp2
      go_meet
      case rel => exact ⟨_, (decide ((a2.size : Int) > 60)), (by first | rfl | (simp; done) | (simp [*]; done)), H', ⟨by first | omega | exact Nat.le_refl _⟩, ⟨by repeat (first | (with_reducible first | exact HB.out | apply below_alloc | apply pw_below_drewN | apply below_drew1) | exact HB.out)⟩⟩
  case rest =>
    clear HC5
    try clear p2
    try clear c6
    try clear c6b0
    try clear c6b1
    obtain ⟨kq, x24_4, rfl, HA, HJ4, HB⟩ := hcut
    cases kq with
    | zero => exact absurd HA.out (by simp [caravanlaw1_SlotMany.j0])
    | succ kj4 =>
      have H := HA.out
      clear HA
      simp only [caravanlaw1_SlotMany.j0] at H
      by_cases c7 : x24_4 = true
      · subst c7
        have H1 : ((caravanlaw1_awake.f kj4).bind fun t145 => (some t145)) = some r := by rw [if_pos rfl] at H; exact H
        clear H
        have H := H1
        clear H1
        replace H := Option.bind_eq_some_iff.mp H
        obtain ⟨t145, A80, H⟩ := H
        replace H : (some t145) = some r := H
        have A8 := Aside0.mk A80
        clear A80
        obtain rfl := Option.some.inj H
        go_wp2_with (first | ((with_reducible refine gate_callee (f := 9) rfl ?_); refine goesL_ (some 25) rfl rfl Try.func9 (by kernel_rfl) rfl #[] rfl (by (try simp only [List.map_toArray, List.map_cons, List.map_nil]); first | done | rfl | (simp only [List.length_drop, List.length_take]; rfl)) ?_; (with_reducible refine (caravanlaw1_awake.calls kj4  t145 _ A8.out).mono ?_); rintro e w9 ⟨rfl, hb⟩; refine ⟨_, rfl, ?_⟩; have n0_ := Aside0.mk (below_step (by repeat (first | (with_reducible first | exact HB.out | apply below_alloc | apply pw_below_drewN | apply below_drew1) | exact HB.out)) hb); clear HB; have HB := n0_; clear n0_; (try clear hb); (try clear hb2); (try clear hk); (try clear hi)))
        go_ret
        exact ⟨by first | rfl | (simp [errW_none, errW_some] <;> rfl) | (simp [*, errW_none, errW_some] <;> rfl), by repeat (first | (with_reducible first | exact HB.out | apply below_alloc | apply pw_below_drewN | apply below_drew1) | exact HB.out)⟩
      · replace c7 := Bool.eq_false_iff.mpr c7
        subst c7
        have H1 : (caravanlaw1_SlotMany.l0 kj4 a0 a1 a2 a3 ([] : List ByteArray) 0) = some r := by rw [if_neg (show ¬ (false = true) by decide)] at H; exact H
        clear H
        have H := H1
        clear H1
        have H' := Aside0.mk H
        clear H
        go_wp2
        go_loopg [9, 10] kj4 (fun kq v9 v10 w' => ∃ (x9_2 : List ByteArray) (x10_2 : Int), v10 = .int .i64 x10_2 ∧ Aside0 (caravanlaw1_SlotMany.l0 kq a0 a1 a2 a3 x9_2 x10_2 = some r) ∧ Aside0 (kq ≤ kj4) ∧ Aside0 (Kd.R Kd.string 9 w' w.heap.size (fun _ => True) v9 x9_2) ∧ Aside0 (Below w.heap.size w w'))
        case atStart => exact ⟨(([] : List ByteArray)), (0), (by first | rfl | (simp; done) | (simp [*]; done)), H', ⟨Nat.le_refl _⟩, ⟨by first | exact Kd.R_nil _ _ _ _ _ | exact Kd.N_nil _ _ _ _ _ | exact Kd.V_nil _ _ _ _ _ | exact Kd.Q_nil _ _ _ _ _ | exact Kd.S_nil _ _ _ _ _⟩, ⟨by repeat (first | (with_reducible first | exact HB.out | apply below_alloc | apply pw_below_drewN | apply below_drew1) | exact HB.out)⟩⟩
        case round =>
          clear H'
          try clear p2
          try clear c6
          try clear c6b0
          try clear c6b1
          try clear c7
          try clear c8
          try clear c9
          try clear p2
          obtain ⟨x9_2, x10_2, rfl, HA, HK2, HO_9, HB⟩ := hrel
          cases gk with
          | zero => exact absurd HA.out (by simp [caravanlaw1_SlotMany.l0])
          | succ k2 =>
            have H := HA.out
            clear HA
            simp only [caravanlaw1_SlotMany.l0] at H
            by_cases c10 : x10_2 < (wrap64 (1 + (Int.tmod (wrap64 (a1)) 6)))
            · rw [if_pos c10] at H
              have c10b0 : decide (x10_2 < (wrap64 (1 + (Int.tmod (wrap64 (a1)) 6)))) = true := decide_eq_true c10
              clear c10
              by_cases c11 : x9_2.length < 8796093022208
              · rw [if_pos c11] at H
                have LMc11 := Aside0.mk c11
                clear c11
                obtain ⟨y146, hy146⟩ : ∃ y_ : List ByteArray, y_ = (x9_2 ++ [a0]) := ⟨_, rfl⟩
                replace H : (caravanlaw1_SlotMany.l0 k2 a0 a1 a2 a3 y146 (wrap64 (x10_2 + 1))) = some r := by first | (rw [hy146]; with_reducible exact H) | (have H2_ := (Option.bind_some _ _).symm.trans H; rw [hy146]; with_reducible exact H2_) | (have H2_ := (Option.bind_some _ _).symm.trans H; with_reducible exact H2_) | with_reducible exact H | (rw [hy146]; exact H) | exact H
                have Ny146 := Aside0.mk hy146
                clear hy146
                have H' := Aside0.mk H
                clear H
                go_wp2_with (first | ((with_reducible refine gate_builtin (b := .append) (xs := #[.tmp 34, .tmp 36]) rfl ?_); (try (refine gate_guard (by rfl) ?_; dsimp only)); at_builtin; refine Kd.R_append Kd.string (w0 := w) w.heap.size rfl (.tmp 34) (.tmp 36) 31 9 (.string ⟨#[]⟩) 16 rfl Try.underlying31 info9 rfl (by decide) (by omega) u9 x9_2 a0 [.string a0] (fun _ => True) (fun _ => False) rfl rfl ?aP (fun _ hk => hk.elim) ?aF ?aO ?aB ?aS ?aL ?_; (case aP => exact rfl); (case aB => exact (by repeat (first | (with_reducible first | exact HB.out | apply below_alloc | apply pw_below_drewN | apply below_drew1) | exact HB.out))); (case aF => exact (fun _ _ => trivial)); (case aO => exact (by (with_reducible repeat (first | apply Kd.R_alloc | apply Kd.R_drewN | apply Kd.R_drew)); exact HO_9.out)); (case aS => exact (below_size (by repeat (first | (with_reducible first | exact HB.out | apply below_alloc | apply pw_below_drewN | apply below_drew1) | exact HB.out)))); (case aL => have := LMc11.out; omega); intro v147 w12 ho hb hg hat; rw [← Ny146.out] at ho; have n0_ := Aside0.mk (hb); have n1_ := Aside0.mk (ho); clear HB; clear HO_9; have HB := n0_; have HO148 := n1_; clear n0_ n1_; clear ho hb hg hat))
                go_roundg k2
                case measure => have := HJ4.out; have := HK2.out; omega
                case rel => exact ⟨(y146), (wrap64 (x10_2 + 1)), (by first | rfl | (simp; done) | (simp [*]; done)), H', ⟨by have := HJ4.out; have := HK2.out; omega⟩, ⟨by (with_reducible repeat (first | apply Kd.R_alloc | apply Kd.R_drewN | apply Kd.R_drew)); exact HO148.out⟩, ⟨by repeat (first | (with_reducible first | exact HB.out | apply below_alloc | apply pw_below_drewN | apply below_drew1) | exact HB.out)⟩⟩
              · rw [if_neg c11] at H
                exact absurd H (by simp)
            · rw [if_neg c10] at H
              have c10b0 : decide (x10_2 < (wrap64 (1 + (Int.tmod (wrap64 (a1)) 6)))) = false := decide_eq_false c10
              clear c10
              replace H := Option.bind_eq_some_iff.mp H
              obtain ⟨⟨t149, t150⟩, A130, H⟩ := H
              replace H : (if t150 = true then ((slot_Of.f k2 a0).bind fun t151 => (caravanlaw1_SlotMany.j2 k2 a0 a2 a3 x9_2 (t149 != t151))) else (caravanlaw1_SlotMany.j2 k2 a0 a2 a3 x9_2 true)) = some r := H
              have A13 := Aside0.mk A130
              clear A130
              have HC14 := Aside0.mk H
              clear H
              obtain ⟨Ao15, co15, eo15⟩ := Kd.R_slice HO_9.out
              subst eo15
              go_upto_region 9 with (first | ((with_reducible refine gate_callee (f := 16) rfl ?_); refine goesL_ (some 40) rfl rfl Try.func16 (by kernel_rfl) rfl #[.slice Ao15 x9_2.length co15] rfl (by (try simp only [List.map_toArray, List.map_cons, List.map_nil]); first | done | rfl | (simp only [List.length_drop, List.length_take]; rfl)) ?_; (with_reducible refine (slot_One.calls k2 _ _ x9_2 t149 t150 _ ?side1 ?side2 A13.out).mono ?_); (case side1 => repeat (first | exact (Kd.R_reads' HO_9.out).2.2 | (with_reducible refine Kd.C_alloc ?_ _) | (with_reducible refine Kd.C_drewN ?_ _) | (with_reducible refine Kd.C_drew ?_))); (case side2 => exact (Kd.R_reads' HO_9.out).2.1); rintro e w16 ⟨rfl, hb⟩; refine ⟨_, rfl, ?_⟩; have n0_ := Aside0.mk (Kd.R_below (by (with_reducible repeat (first | apply Kd.R_alloc | apply Kd.R_drewN | apply Kd.R_drew)); exact HO_9.out) hb); have n1_ := Aside0.mk (below_step (by repeat (first | (with_reducible first | exact HB.out | apply below_alloc | apply pw_below_drewN | apply below_drew1) | exact HB.out)) hb); clear HO_9; clear HB; have HO_9 := n0_; have HB := n1_; clear n0_ n1_; (try clear hb); (try clear hb2); (try clear hk); (try clear hi)))
              (try simp only [Act.put, List.setIfInBounds_toArray, List.set_cons_zero, List.set_cons_succ])
              go_cut [50] (fun v50 wc => ∃ (kq : Nat) (x50_13 : Bool), v50 = .bool x50_13 ∧ Aside0 (caravanlaw1_SlotMany.j2 kq a0 a2 a3 x9_2 x50_13 = some r) ∧ Aside0 (kq ≤ k2) ∧ Aside0 (Kd.R Kd.string 9 wc w.heap.size (fun _ => True) (.slice Ao15 x9_2.length co15) x9_2) ∧ Aside0 (Below w.heap.size w wc))
              case first =>
                have H := HC14.out
                clear HC14
                by_cases c17 : t150 = true
                · subst c17
                  have H1 : ((slot_Of.f k2 a0).bind fun t151 => (caravanlaw1_SlotMany.j2 k2 a0 a2 a3 x9_2 (t149 != t151))) = some r := by rw [if_pos rfl] at H; exact H
                  clear H
                  have H := H1
                  clear H1
                  replace H := Option.bind_eq_some_iff.mp H
                  obtain ⟨t151, A180, H⟩ := H
                  replace H : (caravanlaw1_SlotMany.j2 k2 a0 a2 a3 x9_2 (t149 != t151)) = some r := H
                  have A18 := Aside0.mk A180
                  clear A180
                  have H' := Aside0.mk H
                  clear H
                  go_wp2_with (first | ((with_reducible refine gate_dst (N := 48) rfl ?_); (try (refine gate_guard (by rfl) ?_; dsimp only)); (try (refine gate_guard (by rfl) ?_; dsimp only)); refine goesL_ (some 48) rfl rfl Try.func14 (by kernel_rfl) rfl #[.string a0] rfl (by (try simp only [List.map_toArray, List.map_cons, List.map_nil]); first | done | rfl | (simp only [List.length_drop, List.length_take]; rfl)) ?_; (with_reducible refine (slot_Of.calls k2 a0 t151 _ A18.out).mono ?_); rintro e w19 ⟨rfl, hb⟩; refine ⟨_, rfl, ?_⟩; have n0_ := Aside0.mk (Kd.R_below (by (with_reducible repeat (first | apply Kd.R_alloc | apply Kd.R_drewN | apply Kd.R_drew)); exact HO_9.out) hb); have n1_ := Aside0.mk (below_step (by repeat (first | (with_reducible first | exact HB.out | apply below_alloc | apply pw_below_drewN | apply below_drew1) | exact HB.out)) hb); clear HO_9; clear HB; have HO_9 := n0_; have HB := n1_; clear n0_ n1_; (try clear hb); (try clear hb2); (try clear hk); (try clear hi)))
                  go_meet
                  case rel => exact ⟨_, ((t149 != t151)), (by first | rfl | (simp; done) | (simp [*]; done)), H', ⟨by have := HJ4.out; have := HK2.out; first | omega | exact Nat.le_refl _⟩, ⟨by (with_reducible repeat (first | apply Kd.R_alloc | apply Kd.R_drewN | apply Kd.R_drew)); exact HO_9.out⟩, ⟨by repeat (first | (with_reducible first | exact HB.out | apply below_alloc | apply pw_below_drewN | apply below_drew1) | exact HB.out)⟩⟩
                · replace c17 := Bool.eq_false_iff.mpr c17
                  subst c17
                  have H1 : (caravanlaw1_SlotMany.j2 k2 a0 a2 a3 x9_2 true) = some r := by rw [if_neg (show ¬ (false = true) by decide)] at H; exact H
                  clear H
                  have H := H1
                  clear H1
                  have H' := Aside0.mk H
                  clear H
                  go_wp2
                  go_meet
                  case rel => exact ⟨_, (true), (by first | rfl | (simp; done) | (simp [*]; done)), H', ⟨by have := HJ4.out; have := HK2.out; first | omega | exact Nat.le_refl _⟩, ⟨by (with_reducible repeat (first | apply Kd.R_alloc | apply Kd.R_drewN | apply Kd.R_drew)); exact HO_9.out⟩, ⟨by repeat (first | (with_reducible first | exact HB.out | apply below_alloc | apply pw_below_drewN | apply below_drew1) | exact HB.out)⟩⟩
              case rest =>
                clear HC14
                try clear c1
                try clear p2
                try clear c6
                try clear c6b0
                try clear c6b1
                try clear p6
                try clear c7
                try clear c8
                try clear c9
                try clear c10
                try clear c10b0
                try clear c11
                try clear c14
                try clear c16
                try clear c17
                try clear p2
                obtain ⟨kq, x50_13, rfl, HA, HJ13, HO_9, HB⟩ := hcut
                cases kq with
                | zero => exact absurd HA.out (by simp [caravanlaw1_SlotMany.j2])
                | succ kj13 =>
                  have H := HA.out
                  clear HA
                  simp only [caravanlaw1_SlotMany.j2] at H
                  by_cases c20 : x50_13 = true
                  · subst c20
                    have H1 : (some false) = some r := by rw [if_pos rfl] at H; exact H
                    clear H
                    have H := H1
                    clear H1
                    obtain rfl := Option.some.inj H
                    go_wp2
                    go_ret
                    exact ⟨by first | rfl | (simp [errW_none, errW_some] <;> rfl) | (simp [*, errW_none, errW_some] <;> rfl), by repeat (first | (with_reducible first | exact HB.out | apply below_alloc | apply pw_below_drewN | apply below_drew1) | exact HB.out)⟩
                  · replace c20 := Bool.eq_false_iff.mpr c20
                    subst c20
                    have H1 : (if (x9_2.length : Int) = 0 then (none) else (if 0 ≤ (Int.tmod (wrap64 (a3)) (x9_2.length : Int)) then (if (Int.tmod (wrap64 (a3)) (x9_2.length : Int)) < (x9_2.length : Int) then ((slot_One.f kj13 (x9_2.set ((Int.tmod (wrap64 (a3)) (x9_2.length : Int)) : Int).toNat a2)).bind fun bt153 => (if (x9_2.length : Int) = 1 then (if bt153.2 = true then ((slot_Of.f kj13 a2).bind fun t155 => (if bt153.1 = t155 then ((caravanlaw1_awake.f kj13).bind fun t156 => (some t156)) else (none))) else (none)) else ((slot_One.f kj13 ([] : List ByteArray)).bind fun bt157 => ((caravanref1_Slot.f kj13 a2).bind fun t159 => ((caravanref1_Slot.f kj13 a0).bind fun t160 => (if (bt153.2 == (t159 == t160)) = true then (if bt153.2 = true then (if bt157.2 = true then (none) else ((caravanlaw1_awake.f kj13).bind fun t161 => (some t161))) else (if bt153.1 = 0 then (if bt157.2 = true then (none) else ((caravanlaw1_awake.f kj13).bind fun t162 => (some t162))) else (none))) else (none))))))) else (none)) else (none))) = some r := by rw [if_neg (show ¬ (false = true) by decide)] at H; exact H
                    clear H
                    have H := H1
                    clear H1
                    by_cases c21 : (x9_2.length : Int) = 0
                    · rw [if_pos c21] at H
                      exact absurd H (by simp)
                    · rw [if_neg c21] at H
                      have c21b0 : ((x9_2.length : Int) == 0) = false := beq_eq_false_iff_ne.mpr c21
                      have c21b1 : ((x9_2.length : Int) != 0) = true := bne_iff_ne.mpr c21
                      have c21b2 : ¬ (x9_2 = []) := fun h_ => c21 (by rw [h_]; rfl)
                      obtain ⟨ji22, hji22⟩ : ∃ j_ : Int, (Int.tmod (wrap64 (a3)) (x9_2.length : Int)) = j_ := ⟨_, rfl⟩
                      replace H : (if 0 ≤ (ji22) then (if (ji22) < (x9_2.length : Int) then ((slot_One.f kj13 (x9_2.set ((ji22) : Int).toNat a2)).bind fun bt153 => (if (x9_2.length : Int) = 1 then (if bt153.2 = true then ((slot_Of.f kj13 a2).bind fun t155 => (if bt153.1 = t155 then ((caravanlaw1_awake.f kj13).bind fun t156 => (some t156)) else (none))) else (none)) else ((slot_One.f kj13 ([] : List ByteArray)).bind fun bt157 => ((caravanref1_Slot.f kj13 a2).bind fun t159 => ((caravanref1_Slot.f kj13 a0).bind fun t160 => (if (bt153.2 == (t159 == t160)) = true then (if bt153.2 = true then (if bt157.2 = true then (none) else ((caravanlaw1_awake.f kj13).bind fun t161 => (some t161))) else (if bt153.1 = 0 then (if bt157.2 = true then (none) else ((caravanlaw1_awake.f kj13).bind fun t162 => (some t162))) else (none))) else (none))))))) else (none)) else (none)) = some r := by first | (rw [hji22] at H; exact H) | (simp only [hji22] at H ⊢; exact H)
                      by_cases c23 : 0 ≤ (ji22)
                      · rw [if_pos c23] at H
                        have c23b0 : decide (0 ≤ (ji22)) = true := decide_eq_true c23
                        clear c23
                        by_cases c24 : (ji22) < (x9_2.length : Int)
                        · rw [if_pos c24] at H
                          have c24b0 : decide ((ji22) < (x9_2.length : Int)) = true := decide_eq_true c24
                          clear c24
                          obtain ⟨y152, hy152⟩ : ∃ y_ : List ByteArray, y_ = (x9_2.set ((ji22) : Int).toNat a2) := ⟨_, rfl⟩
                          replace H : ((slot_One.f kj13 y152).bind fun bt153 => (if (x9_2.length : Int) = 1 then (if bt153.2 = true then ((slot_Of.f kj13 a2).bind fun t155 => (if bt153.1 = t155 then ((caravanlaw1_awake.f kj13).bind fun t156 => (some t156)) else (none))) else (none)) else ((slot_One.f kj13 ([] : List ByteArray)).bind fun bt157 => ((caravanref1_Slot.f kj13 a2).bind fun t159 => ((caravanref1_Slot.f kj13 a0).bind fun t160 => (if (bt153.2 == (t159 == t160)) = true then (if bt153.2 = true then (if bt157.2 = true then (none) else ((caravanlaw1_awake.f kj13).bind fun t161 => (some t161))) else (if bt153.1 = 0 then (if bt157.2 = true then (none) else ((caravanlaw1_awake.f kj13).bind fun t162 => (some t162))) else (none))) else (none))))))) = some r := by first | (rw [hy152]; with_reducible exact H) | (have H2_ := (Option.bind_some _ _).symm.trans H; rw [hy152]; with_reducible exact H2_) | (have H2_ := (Option.bind_some _ _).symm.trans H; with_reducible exact H2_) | with_reducible exact H | (rw [hy152]; exact H) | exact H
                          have Ny152 := Aside0.mk hy152
                          clear hy152
                          replace H := Option.bind_eq_some_iff.mp H
                          obtain ⟨⟨t153, t154⟩, A260, H⟩ := H
                          replace H : (if (x9_2.length : Int) = 1 then (if t154 = true then ((slot_Of.f kj13 a2).bind fun t155 => (if t153 = t155 then ((caravanlaw1_awake.f kj13).bind fun t156 => (some t156)) else (none))) else (none)) else ((slot_One.f kj13 ([] : List ByteArray)).bind fun bt157 => ((caravanref1_Slot.f kj13 a2).bind fun t159 => ((caravanref1_Slot.f kj13 a0).bind fun t160 => (if (t154 == (t159 == t160)) = true then (if t154 = true then (if bt157.2 = true then (none) else ((caravanlaw1_awake.f kj13).bind fun t161 => (some t161))) else (if t153 = 0 then (if bt157.2 = true then (none) else ((caravanlaw1_awake.f kj13).bind fun t162 => (some t162))) else (none))) else (none)))))) = some r := H
                          have A26 := Aside0.mk A260
                          clear A260
                          by_cases c27 : (x9_2.length : Int) = 1
                          · rw [if_pos c27] at H
                            have c27b0 : ((x9_2.length : Int) == 1) = true := beq_iff_eq.mpr c27
                            have c27b1 : ((x9_2.length : Int) != 1) = false := bne_eq_false_iff_eq.mpr c27
                            clear c27
                            by_cases c28 : t154 = true
                            · subst c28
                              have H1 : ((slot_Of.f kj13 a2).bind fun t155 => (if t153 = t155 then ((caravanlaw1_awake.f kj13).bind fun t156 => (some t156)) else (none))) = some r := by rw [if_pos rfl] at H; exact H
                              clear H
                              have H := H1
                              clear H1
                              replace H := Option.bind_eq_some_iff.mp H
                              obtain ⟨t155, A290, H⟩ := H
                              replace H : (if t153 = t155 then ((caravanlaw1_awake.f kj13).bind fun t156 => (some t156)) else (none)) = some r := H
                              have A29 := Aside0.mk A290
                              clear A290
                              by_cases c30 : t153 = t155
                              · rw [if_pos c30] at H
                                have c30b0 : (t153 == t155) = true := beq_iff_eq.mpr c30
                                have c30b1 : (t153 != t155) = false := bne_eq_false_iff_eq.mpr c30
                                clear c30
                                replace H := Option.bind_eq_some_iff.mp H
                                obtain ⟨t156, A310, H⟩ := H
                                replace H : (some t156) = some r := H
                                have A31 := Aside0.mk A310
                                clear A310
                                obtain rfl := Option.some.inj H
                                have p25 : 0 ≤ ((ji22) : Int) := of_decide_eq_true (by first | (with_reducible assumption) | assumption)
                                have q25 : ((ji22) : Int) < ((x9_2.length : Int) : Int) := of_decide_eq_true (by first | (with_reducible assumption) | assumption)
                                obtain ⟨go25, co25, eo25, gb25, gl25, cl25, HG25⟩ := Kd.R_form HO_9.out (by omega)
                                (first | cases eo25 | (injection eo25 with ea_ en_ ec_; (first | subst ea_ | (injection ea_ with ea_; subst ea_)); subst ec_; clear en_))
                                have GB25 := Aside0.mk gb25
                                have GG25 := Aside0.mk HG25
                                clear gb25 gl25 HG25
                                obtain ⟨hx25_0, hf25_0⟩ := Kd.R_celln (⟨#[]⟩ : ByteArray) HO_9.out ((ji22) : Int) p25 q25
                                replace p25 := eq_true p25
                                replace q25 := eq_true q25
                                have HP32 := Kd.R_putg HO_9.out ((ji22) : Int) a2
                                go_wp2_with (first | ((with_reducible refine gate_store (t := 9) (p := 58) rfl ?_); refine store_event (t := 9) (p := 58) (v := ?vo_w33) (w1 := (wc.setCell ⟨go25, ((ji22) : Int).toNat, none⟩ (.string a2))) ?hg ?ho ?hn ?hr ?_; (case ho => rfl); (case hg => rfl); (case hn => rfl); (case hr => first | (go_simp; done) | (go_simp; rfl)); intro w33 hw; have hg : wc.grownBy w33 (some go25) := (by rw [hw]; exact HP32.2); have hp_ : Kd.R Kd.string 9 w33 w.heap.size (fun _ => True) (.slice (some ⟨go25, 0, none⟩) x9_2.length co15) y152 := (by rw [hw, Ny152.out]; exact HP32.1); clear HP32; have n0_ := Aside0.mk (hp_); have n1_ := Aside0.mk ((by rw [hw]; exact below_set (HB.out) GB25.out : Below w.heap.size w w33)); clear HO_9; clear HB; have HO_9 := n0_; have HB := n1_; clear n0_ n1_; clear hg hw hp_) | ((with_reducible refine gate_callee (f := 16) rfl ?_); refine goesL_ (some 61) rfl rfl Try.func16 (by kernel_rfl) rfl #[.slice (some ⟨go25, 0, none⟩) y152.length co15] rfl (by (try simp only [List.map_toArray, List.map_cons, List.map_nil]); first | done | (rw [show y152.length = x9_2.length from (Kd.R_reads' HO_9.out).1.symm] <;> rfl) | rfl | (simp only [List.length_drop, List.length_take]; rfl)) ?_; (with_reducible refine (slot_One.calls kj13 _ _ y152 t153 true _ ?side1 ?side2 A26.out).mono ?_); (case side1 => repeat (first | exact (Kd.R_reads' HO_9.out).2.2 | (with_reducible refine Kd.C_alloc ?_ _) | (with_reducible refine Kd.C_drewN ?_ _) | (with_reducible refine Kd.C_drew ?_))); (case side2 => rw [show y152.length = x9_2.length from (Kd.R_reads' HO_9.out).1.symm]; exact (Kd.R_reads' HO_9.out).2.1); rintro e w34 ⟨rfl, hb⟩; refine ⟨_, rfl, ?_⟩; have n0_ := Aside0.mk (Kd.R_below (by (with_reducible repeat (first | apply Kd.R_alloc | apply Kd.R_drewN | apply Kd.R_drew)); exact HO_9.out) hb); have n1_ := Aside0.mk (below_step (by repeat (first | (with_reducible first | exact HB.out | apply below_alloc | apply pw_below_drewN | apply below_drew1) | exact HB.out)) hb); clear HO_9; clear HB; have HO_9 := n0_; have HB := n1_; clear n0_ n1_; (try clear hb); (try clear hb2); (try clear hk); (try clear hi)) | ((with_reducible refine gate_dst (N := 71) rfl ?_); (try (refine gate_guard (by rfl) ?_; dsimp only)); (try (refine gate_guard (by rfl) ?_; dsimp only)); refine goesL_ (some 71) rfl rfl Try.func14 (by kernel_rfl) rfl #[.string a2] rfl (by (try simp only [List.map_toArray, List.map_cons, List.map_nil]); first | done | rfl | (simp only [List.length_drop, List.length_take]; rfl)) ?_; (with_reducible refine (slot_Of.calls kj13 a2 t155 _ A29.out).mono ?_); rintro e w35 ⟨rfl, hb⟩; refine ⟨_, rfl, ?_⟩; have n0_ := Aside0.mk (Kd.R_below (by (with_reducible repeat (first | apply Kd.R_alloc | apply Kd.R_drewN | apply Kd.R_drew)); exact HO_9.out) hb); have n1_ := Aside0.mk (below_step (by repeat (first | (with_reducible first | exact HB.out | apply below_alloc | apply pw_below_drewN | apply below_drew1) | exact HB.out)) hb); clear HO_9; clear HB; have HO_9 := n0_; have HB := n1_; clear n0_ n1_; (try clear hb); (try clear hb2); (try clear hk); (try clear hi)) | ((with_reducible refine gate_dst (N := 75) rfl ?_); (try (refine gate_guard (by rfl) ?_; dsimp only)); (try (refine gate_guard (by rfl) ?_; dsimp only)); refine goesL_ (some 75) rfl rfl Try.func9 (by kernel_rfl) rfl #[] rfl (by (try simp only [List.map_toArray, List.map_cons, List.map_nil]); first | done | rfl | (simp only [List.length_drop, List.length_take]; rfl)) ?_; (with_reducible refine (caravanlaw1_awake.calls kj13  t156 _ A31.out).mono ?_); rintro e w36 ⟨rfl, hb⟩; refine ⟨_, rfl, ?_⟩; have n0_ := Aside0.mk (Kd.R_below (by (with_reducible repeat (first | apply Kd.R_alloc | apply Kd.R_drewN | apply Kd.R_drew)); exact HO_9.out) hb); have n1_ := Aside0.mk (below_step (by repeat (first | (with_reducible first | exact HB.out | apply below_alloc | apply pw_below_drewN | apply below_drew1) | exact HB.out)) hb); clear HO_9; clear HB; have HO_9 := n0_; have HB := n1_; clear n0_ n1_; (try clear hb); (try clear hb2); (try clear hk); (try clear hi)))
                                go_ret
                                exact ⟨by first | rfl | (simp [errW_none, errW_some] <;> rfl) | (simp only [← hji22]; first | rfl | (simp [errW_none, errW_some] <;> rfl)) | (simp [*, errW_none, errW_some] <;> rfl), by repeat (first | (with_reducible first | exact HB.out | apply below_alloc | apply pw_below_drewN | apply below_drew1) | exact HB.out)⟩
                              · rw [if_neg c30] at H
                                exact absurd H (by simp)
                            · replace c28 := Bool.eq_false_iff.mpr c28
                              subst c28
                              have H1 : (none) = some r := by rw [if_neg (show ¬ (false = true) by decide)] at H; exact H
                              clear H
                              have H := H1
                              clear H1
                              exact absurd H (by simp)
                          · rw [if_neg c27] at H
                            have c27b0 : ((x9_2.length : Int) == 1) = false := beq_eq_false_iff_ne.mpr c27
                            have c27b1 : ((x9_2.length : Int) != 1) = true := bne_iff_ne.mpr c27
                            replace H := Option.bind_eq_some_iff.mp H
                            obtain ⟨⟨t157, t158⟩, A370, H⟩ := H
                            replace H : ((caravanref1_Slot.f kj13 a2).bind fun t159 => ((caravanref1_Slot.f kj13 a0).bind fun t160 => (if (t154 == (t159 == t160)) = true then (if t154 = true then (if t158 = true then (none) else ((caravanlaw1_awake.f kj13).bind fun t161 => (some t161))) else (if t153 = 0 then (if t158 = true then (none) else ((caravanlaw1_awake.f kj13).bind fun t162 => (some t162))) else (none))) else (none)))) = some r := H
                            have A37 := Aside0.mk A370
                            clear A370
                            replace H := Option.bind_eq_some_iff.mp H
                            obtain ⟨t159, A380, H⟩ := H
                            replace H : ((caravanref1_Slot.f kj13 a0).bind fun t160 => (if (t154 == (t159 == t160)) = true then (if t154 = true then (if t158 = true then (none) else ((caravanlaw1_awake.f kj13).bind fun t161 => (some t161))) else (if t153 = 0 then (if t158 = true then (none) else ((caravanlaw1_awake.f kj13).bind fun t162 => (some t162))) else (none))) else (none))) = some r := H
                            have A38 := Aside0.mk A380
                            clear A380
                            replace H := Option.bind_eq_some_iff.mp H
                            obtain ⟨t160, A390, H⟩ := H
                            replace H : (if (t154 == (t159 == t160)) = true then (if t154 = true then (if t158 = true then (none) else ((caravanlaw1_awake.f kj13).bind fun t161 => (some t161))) else (if t153 = 0 then (if t158 = true then (none) else ((caravanlaw1_awake.f kj13).bind fun t162 => (some t162))) else (none))) else (none)) = some r := H
                            have A39 := Aside0.mk A390
                            clear A390
                            by_cases c40 : (t154 == (t159 == t160)) = true
                            · rw [if_pos c40] at H
                              have c40b0 : (t154 == (t159 == t160)) = true := c40
                              (try (have c40b1 : decide (t154 = (t159 == t160)) = true := by simpa using c40))
                              (try (have c40b2 : (t154 == (t159 == t160)) = true := by simpa using c40))
                              clear c40
                              by_cases c41 : t154 = true
                              · subst c41
                                have H1 : (if t158 = true then (none) else ((caravanlaw1_awake.f kj13).bind fun t161 => (some t161))) = some r := by rw [if_pos rfl] at H; exact H
                                clear H
                                have H := H1
                                clear H1
                                by_cases c42 : t158 = true
                                · subst c42
                                  have H1 : (none) = some r := by rw [if_pos rfl] at H; exact H
                                  clear H
                                  have H := H1
                                  clear H1
                                  exact absurd H (by simp)
                                · replace c42 := Bool.eq_false_iff.mpr c42
                                  subst c42
                                  have H1 : ((caravanlaw1_awake.f kj13).bind fun t161 => (some t161)) = some r := by rw [if_neg (show ¬ (false = true) by decide)] at H; exact H
                                  clear H
                                  have H := H1
                                  clear H1
                                  replace H := Option.bind_eq_some_iff.mp H
                                  obtain ⟨t161, A430, H⟩ := H
                                  replace H : (some t161) = some r := H
                                  have A43 := Aside0.mk A430
                                  clear A430
                                  obtain rfl := Option.some.inj H
                                  have p25 : 0 ≤ ((ji22) : Int) := of_decide_eq_true (by first | (with_reducible assumption) | assumption)
                                  have q25 : ((ji22) : Int) < ((x9_2.length : Int) : Int) := of_decide_eq_true (by first | (with_reducible assumption) | assumption)
                                  obtain ⟨go25, co25, eo25, gb25, gl25, cl25, HG25⟩ := Kd.R_form HO_9.out (by omega)
                                  (first | cases eo25 | (injection eo25 with ea_ en_ ec_; (first | subst ea_ | (injection ea_ with ea_; subst ea_)); subst ec_; clear en_))
                                  have GB25 := Aside0.mk gb25
                                  have GG25 := Aside0.mk HG25
                                  clear gb25 gl25 HG25
                                  obtain ⟨hx25_0, hf25_0⟩ := Kd.R_celln (⟨#[]⟩ : ByteArray) HO_9.out ((ji22) : Int) p25 q25
                                  replace p25 := eq_true p25
                                  replace q25 := eq_true q25
                                  have HP44 := Kd.R_putg HO_9.out ((ji22) : Int) a2
                                  go_wp2_with (first | ((with_reducible refine gate_store (t := 9) (p := 58) rfl ?_); refine store_event (t := 9) (p := 58) (v := ?vo_w45) (w1 := (wc.setCell ⟨go25, ((ji22) : Int).toNat, none⟩ (.string a2))) ?hg ?ho ?hn ?hr ?_; (case ho => rfl); (case hg => rfl); (case hn => rfl); (case hr => first | (go_simp; done) | (go_simp; rfl)); intro w45 hw; have hg : wc.grownBy w45 (some go25) := (by rw [hw]; exact HP44.2); have hp_ : Kd.R Kd.string 9 w45 w.heap.size (fun _ => True) (.slice (some ⟨go25, 0, none⟩) x9_2.length co15) y152 := (by rw [hw, Ny152.out]; exact HP44.1); clear HP44; have n0_ := Aside0.mk (hp_); have n1_ := Aside0.mk ((by rw [hw]; exact below_set (HB.out) GB25.out : Below w.heap.size w w45)); clear HO_9; clear HB; have HO_9 := n0_; have HB := n1_; clear n0_ n1_; clear hg hw hp_) | ((with_reducible refine gate_callee (f := 16) rfl ?_); refine goesL_ (some 61) rfl rfl Try.func16 (by kernel_rfl) rfl #[.slice (some ⟨go25, 0, none⟩) y152.length co15] rfl (by (try simp only [List.map_toArray, List.map_cons, List.map_nil]); first | done | (rw [show y152.length = x9_2.length from (Kd.R_reads' HO_9.out).1.symm] <;> rfl) | rfl | (simp only [List.length_drop, List.length_take]; rfl)) ?_; (with_reducible refine (slot_One.calls kj13 _ _ y152 t153 true _ ?side1 ?side2 A26.out).mono ?_); (case side1 => repeat (first | exact (Kd.R_reads' HO_9.out).2.2 | (with_reducible refine Kd.C_alloc ?_ _) | (with_reducible refine Kd.C_drewN ?_ _) | (with_reducible refine Kd.C_drew ?_))); (case side2 => rw [show y152.length = x9_2.length from (Kd.R_reads' HO_9.out).1.symm]; exact (Kd.R_reads' HO_9.out).2.1); rintro e w46 ⟨rfl, hb⟩; refine ⟨_, rfl, ?_⟩; have n0_ := Aside0.mk (Kd.R_below (by (with_reducible repeat (first | apply Kd.R_alloc | apply Kd.R_drewN | apply Kd.R_drew)); exact HO_9.out) hb); have n1_ := Aside0.mk (below_step (by repeat (first | (with_reducible first | exact HB.out | apply below_alloc | apply pw_below_drewN | apply below_drew1) | exact HB.out)) hb); clear HO_9; clear HB; have HO_9 := n0_; have HB := n1_; clear n0_ n1_; (try clear hb); (try clear hb2); (try clear hk); (try clear hi)) | ((with_reducible refine gate_callee (f := 16) rfl ?_); refine goesL_ (some 78) rfl rfl Try.func16 (by kernel_rfl) rfl #[.slice none 0 0] rfl (by (try simp only [List.map_toArray, List.map_cons, List.map_nil]); first | done | rfl | (simp only [List.length_drop, List.length_take]; rfl)) ?_; (refine (slot_One.calls kj13 _ _ ([] : List ByteArray) t157 false _ ?side1 ?side2 A37.out).mono ?_); (case side1 => exact Kd.C_nil _ _); (case side2 => exact Nat.le_refl _); rintro e w47 ⟨rfl, hb⟩; refine ⟨_, rfl, ?_⟩; have n0_ := Aside0.mk (Kd.R_below (by (with_reducible repeat (first | apply Kd.R_alloc | apply Kd.R_drewN | apply Kd.R_drew)); exact HO_9.out) hb); have n1_ := Aside0.mk (below_step (by repeat (first | (with_reducible first | exact HB.out | apply below_alloc | apply pw_below_drewN | apply below_drew1) | exact HB.out)) hb); clear HO_9; clear HB; have HO_9 := n0_; have HB := n1_; clear n0_ n1_; (try clear hb); (try clear hb2); (try clear hk); (try clear hi)) | ((with_reducible refine gate_callee (f := 15) rfl ?_); refine goesL_ (some 83) rfl rfl Try.func15 (by kernel_rfl) rfl #[.string a2] rfl (by (try simp only [List.map_toArray, List.map_cons, List.map_nil]); first | done | rfl | (simp only [List.length_drop, List.length_take]; rfl)) ?_; (with_reducible refine (caravanref1_Slot.calls kj13 a2 t159 _ A38.out).mono ?_); rintro e w' ⟨rfl, ⟨nd, rfl⟩⟩; refine ⟨_, rfl, ?_⟩) | ((with_reducible refine gate_callee (f := 15) rfl ?_); refine goesL_ (some 85) rfl rfl Try.func15 (by kernel_rfl) rfl #[.string a0] rfl (by (try simp only [List.map_toArray, List.map_cons, List.map_nil]); first | done | rfl | (simp only [List.length_drop, List.length_take]; rfl)) ?_; (with_reducible refine (caravanref1_Slot.calls kj13 a0 t160 _ A39.out).mono ?_); rintro e w' ⟨rfl, ⟨nd, rfl⟩⟩; refine ⟨_, rfl, ?_⟩) | ((with_reducible refine gate_dst (N := 100) rfl ?_); (try (refine gate_guard (by rfl) ?_; dsimp only)); (try (refine gate_guard (by rfl) ?_; dsimp only)); refine goesL_ (some 100) rfl rfl Try.func9 (by kernel_rfl) rfl #[] rfl (by (try simp only [List.map_toArray, List.map_cons, List.map_nil]); first | done | rfl | (simp only [List.length_drop, List.length_take]; rfl)) ?_; (with_reducible refine (caravanlaw1_awake.calls kj13  t161 _ A43.out).mono ?_); rintro e w48 ⟨rfl, hb⟩; refine ⟨_, rfl, ?_⟩; have n0_ := Aside0.mk (Kd.R_below (by (with_reducible repeat (first | apply Kd.R_alloc | apply Kd.R_drewN | apply Kd.R_drew)); exact HO_9.out) hb); have n1_ := Aside0.mk (below_step (by repeat (first | (with_reducible first | exact HB.out | apply below_alloc | apply pw_below_drewN | apply below_drew1) | exact HB.out)) hb); clear HO_9; clear HB; have HO_9 := n0_; have HB := n1_; clear n0_ n1_; (try clear hb); (try clear hb2); (try clear hk); (try clear hi)))
                                  go_ret
                                  exact ⟨by first | rfl | (simp [errW_none, errW_some] <;> rfl) | (simp only [← hji22]; first | rfl | (simp [errW_none, errW_some] <;> rfl)) | (simp [*, errW_none, errW_some] <;> rfl), by repeat (first | (with_reducible first | exact HB.out | apply below_alloc | apply pw_below_drewN | apply below_drew1) | exact HB.out)⟩
                              · replace c41 := Bool.eq_false_iff.mpr c41
                                subst c41
                                have H1 : (if t153 = 0 then (if t158 = true then (none) else ((caravanlaw1_awake.f kj13).bind fun t162 => (some t162))) else (none)) = some r := by rw [if_neg (show ¬ (false = true) by decide)] at H; exact H
                                clear H
                                have H := H1
                                clear H1
                                by_cases c49 : t153 = 0
                                · rw [if_pos c49] at H
                                  have c49b0 : (t153 == 0) = true := beq_iff_eq.mpr c49
                                  have c49b1 : (t153 != 0) = false := bne_eq_false_iff_eq.mpr c49
                                  clear c49
                                  by_cases c50 : t158 = true
                                  · subst c50
                                    have H1 : (none) = some r := by rw [if_pos rfl] at H; exact H
                                    clear H
                                    have H := H1
                                    clear H1
                                    exact absurd H (by simp)
                                  · replace c50 := Bool.eq_false_iff.mpr c50
                                    subst c50
                                    have H1 : ((caravanlaw1_awake.f kj13).bind fun t162 => (some t162)) = some r := by rw [if_neg (show ¬ (false = true) by decide)] at H; exact H
                                    clear H
                                    have H := H1
                                    clear H1
                                    replace H := Option.bind_eq_some_iff.mp H
                                    obtain ⟨t162, A510, H⟩ := H
                                    replace H : (some t162) = some r := H
                                    have A51 := Aside0.mk A510
                                    clear A510
                                    obtain rfl := Option.some.inj H
                                    have p25 : 0 ≤ ((ji22) : Int) := of_decide_eq_true (by first | (with_reducible assumption) | assumption)
                                    have q25 : ((ji22) : Int) < ((x9_2.length : Int) : Int) := of_decide_eq_true (by first | (with_reducible assumption) | assumption)
                                    obtain ⟨go25, co25, eo25, gb25, gl25, cl25, HG25⟩ := Kd.R_form HO_9.out (by omega)
                                    (first | cases eo25 | (injection eo25 with ea_ en_ ec_; (first | subst ea_ | (injection ea_ with ea_; subst ea_)); subst ec_; clear en_))
                                    have GB25 := Aside0.mk gb25
                                    have GG25 := Aside0.mk HG25
                                    clear gb25 gl25 HG25
                                    obtain ⟨hx25_0, hf25_0⟩ := Kd.R_celln (⟨#[]⟩ : ByteArray) HO_9.out ((ji22) : Int) p25 q25
                                    replace p25 := eq_true p25
                                    replace q25 := eq_true q25
                                    have HP52 := Kd.R_putg HO_9.out ((ji22) : Int) a2
                                    go_wp2_with (first | ((with_reducible refine gate_store (t := 9) (p := 58) rfl ?_); refine store_event (t := 9) (p := 58) (v := ?vo_w53) (w1 := (wc.setCell ⟨go25, ((ji22) : Int).toNat, none⟩ (.string a2))) ?hg ?ho ?hn ?hr ?_; (case ho => rfl); (case hg => rfl); (case hn => rfl); (case hr => first | (go_simp; done) | (go_simp; rfl)); intro w53 hw; have hg : wc.grownBy w53 (some go25) := (by rw [hw]; exact HP52.2); have hp_ : Kd.R Kd.string 9 w53 w.heap.size (fun _ => True) (.slice (some ⟨go25, 0, none⟩) x9_2.length co15) y152 := (by rw [hw, Ny152.out]; exact HP52.1); clear HP52; have n0_ := Aside0.mk (hp_); have n1_ := Aside0.mk ((by rw [hw]; exact below_set (HB.out) GB25.out : Below w.heap.size w w53)); clear HO_9; clear HB; have HO_9 := n0_; have HB := n1_; clear n0_ n1_; clear hg hw hp_) | ((with_reducible refine gate_callee (f := 16) rfl ?_); refine goesL_ (some 61) rfl rfl Try.func16 (by kernel_rfl) rfl #[.slice (some ⟨go25, 0, none⟩) y152.length co15] rfl (by (try simp only [List.map_toArray, List.map_cons, List.map_nil]); first | done | (rw [show y152.length = x9_2.length from (Kd.R_reads' HO_9.out).1.symm] <;> rfl) | rfl | (simp only [List.length_drop, List.length_take]; rfl)) ?_; (with_reducible refine (slot_One.calls kj13 _ _ y152 t153 false _ ?side1 ?side2 A26.out).mono ?_); (case side1 => repeat (first | exact (Kd.R_reads' HO_9.out).2.2 | (with_reducible refine Kd.C_alloc ?_ _) | (with_reducible refine Kd.C_drewN ?_ _) | (with_reducible refine Kd.C_drew ?_))); (case side2 => rw [show y152.length = x9_2.length from (Kd.R_reads' HO_9.out).1.symm]; exact (Kd.R_reads' HO_9.out).2.1); rintro e w54 ⟨rfl, hb⟩; refine ⟨_, rfl, ?_⟩; have n0_ := Aside0.mk (Kd.R_below (by (with_reducible repeat (first | apply Kd.R_alloc | apply Kd.R_drewN | apply Kd.R_drew)); exact HO_9.out) hb); have n1_ := Aside0.mk (below_step (by repeat (first | (with_reducible first | exact HB.out | apply below_alloc | apply pw_below_drewN | apply below_drew1) | exact HB.out)) hb); clear HO_9; clear HB; have HO_9 := n0_; have HB := n1_; clear n0_ n1_; (try clear hb); (try clear hb2); (try clear hk); (try clear hi)) | ((with_reducible refine gate_callee (f := 16) rfl ?_); refine goesL_ (some 78) rfl rfl Try.func16 (by kernel_rfl) rfl #[.slice none 0 0] rfl (by (try simp only [List.map_toArray, List.map_cons, List.map_nil]); first | done | rfl | (simp only [List.length_drop, List.length_take]; rfl)) ?_; (refine (slot_One.calls kj13 _ _ ([] : List ByteArray) t157 false _ ?side1 ?side2 A37.out).mono ?_); (case side1 => exact Kd.C_nil _ _); (case side2 => exact Nat.le_refl _); rintro e w55 ⟨rfl, hb⟩; refine ⟨_, rfl, ?_⟩; have n0_ := Aside0.mk (Kd.R_below (by (with_reducible repeat (first | apply Kd.R_alloc | apply Kd.R_drewN | apply Kd.R_drew)); exact HO_9.out) hb); have n1_ := Aside0.mk (below_step (by repeat (first | (with_reducible first | exact HB.out | apply below_alloc | apply pw_below_drewN | apply below_drew1) | exact HB.out)) hb); clear HO_9; clear HB; have HO_9 := n0_; have HB := n1_; clear n0_ n1_; (try clear hb); (try clear hb2); (try clear hk); (try clear hi)) | ((with_reducible refine gate_callee (f := 15) rfl ?_); refine goesL_ (some 83) rfl rfl Try.func15 (by kernel_rfl) rfl #[.string a2] rfl (by (try simp only [List.map_toArray, List.map_cons, List.map_nil]); first | done | rfl | (simp only [List.length_drop, List.length_take]; rfl)) ?_; (with_reducible refine (caravanref1_Slot.calls kj13 a2 t159 _ A38.out).mono ?_); rintro e w' ⟨rfl, ⟨nd, rfl⟩⟩; refine ⟨_, rfl, ?_⟩) | ((with_reducible refine gate_callee (f := 15) rfl ?_); refine goesL_ (some 85) rfl rfl Try.func15 (by kernel_rfl) rfl #[.string a0] rfl (by (try simp only [List.map_toArray, List.map_cons, List.map_nil]); first | done | rfl | (simp only [List.length_drop, List.length_take]; rfl)) ?_; (with_reducible refine (caravanref1_Slot.calls kj13 a0 t160 _ A39.out).mono ?_); rintro e w' ⟨rfl, ⟨nd, rfl⟩⟩; refine ⟨_, rfl, ?_⟩) | ((with_reducible refine gate_dst (N := 100) rfl ?_); (try (refine gate_guard (by rfl) ?_; dsimp only)); (try (refine gate_guard (by rfl) ?_; dsimp only)); refine goesL_ (some 100) rfl rfl Try.func9 (by kernel_rfl) rfl #[] rfl (by (try simp only [List.map_toArray, List.map_cons, List.map_nil]); first | done | rfl | (simp only [List.length_drop, List.length_take]; rfl)) ?_; (with_reducible refine (caravanlaw1_awake.calls kj13  t162 _ A51.out).mono ?_); rintro e w56 ⟨rfl, hb⟩; refine ⟨_, rfl, ?_⟩; have n0_ := Aside0.mk (Kd.R_below (by (with_reducible repeat (first | apply Kd.R_alloc | apply Kd.R_drewN | apply Kd.R_drew)); exact HO_9.out) hb); have n1_ := Aside0.mk (below_step (by repeat (first | (with_reducible first | exact HB.out | apply below_alloc | apply pw_below_drewN | apply below_drew1) | exact HB.out)) hb); clear HO_9; clear HB; have HO_9 := n0_; have HB := n1_; clear n0_ n1_; (try clear hb); (try clear hb2); (try clear hk); (try clear hi)))
                                    go_ret
                                    exact ⟨by first | rfl | (simp [errW_none, errW_some] <;> rfl) | (simp only [← hji22]; first | rfl | (simp [errW_none, errW_some] <;> rfl)) | (simp [*, errW_none, errW_some] <;> rfl), by repeat (first | (with_reducible first | exact HB.out | apply below_alloc | apply pw_below_drewN | apply below_drew1) | exact HB.out)⟩
                                · rw [if_neg c49] at H
                                  exact absurd H (by simp)
                            · rw [if_neg c40] at H
                              exact absurd H (by simp)
                        · rw [if_neg c24] at H
                          exact absurd H (by simp)
                      · rw [if_neg c23] at H
                        exact absurd H (by simp)

/-- THE ONE PURE STATEMENT of caravanlaw1_SlotMany: yours. -/
def caravanlaw1_SlotMany.Pure : Prop := ∀ (a0 : ByteArray) (a1 : Int) (a2 : ByteArray) (a3 : Int), a0.size ≤ 140737488351232 → (Lit.int .u8 a1).wf = true → a2.size ≤ 140737488351232 → (Lit.int .u8 a3).wf = true → ∃ k, caravanlaw1_SlotMany.f k a0 a1 a2 a3 = some true
theorem caravanlaw1_SlotMany.walk (P : caravanlaw1_SlotMany.Pure) (a0 : ByteArray) (a1 : Int) (a2 : ByteArray) (a3 : Int) (w : World) (w0 : a0.size ≤ 140737488351232) (w1 : (Lit.int .u8 a1).wf = true) (w2 : a2.size ≤ 140737488351232) (w3 : (Lit.int .u8 a3).wf = true) :
    Calls Try.prog 8 #[.string a0, .int .u8 a1, .string a2, .int .u8 a3] w fun e w' => e = .returned (.bool true) ∧ Below w.heap.size w w' := by
  obtain ⟨k, h⟩ := P a0 a1 a2 a3 w0 w1 w2 w3
  refine (caravanlaw1_SlotMany.calls k a0 a1 a2 a3 true w h).mono ?_
  rintro e w' ⟨rfl, hd⟩
  exact ⟨rfl, hd⟩

end Go.Proofs.Ytgbncimfkjfjcaa.SX

/- The machine side of a law: what Go functions compute, as Lean functions, and the proofs of it. Conditions: none. (Written by wip/myprint.py of this session's repo.) -/
import Derived.Test.YtbjpopooijhpdaaWXx0
import Derived.Test.YtbjpopooijhpdaaWXx8
namespace Go.Proofs.Ytbjpopooijhpdaa.WX
open Go.RowKit Go.Proofs.YtbjpopooijhpdaaW.PrintWords Go.Proofs.YtbjpopooijhpdaaW.PrintLast Go.Proofs.YtbjpopooijhpdaaW.PrintMore
attribute [local go_sem] max2_int min2_int max_two min_two max_three min_three max_four min_four   -- for this text's walks alone
set_option linter.unusedVariables false
set_option linter.unusedSimpArgs false

/-! ### caravanref13_Failed: function 20 -/
mutual
def caravanref13_Failed.j0 : Nat → Int → List Int → Int → Bool → List Int → List (List Int) → Option (Bool)
  | 0, _, _, _, _, _, _ => none
  | k + 1, x1, x2, x3, x21, x322000, x322001 => if x21 = true then (some false) else (caravanref13_Failed.l0 k x1 x2 x3 0 0 x322000 x322001)
def caravanref13_Failed.l0 : Nat → Int → List Int → Int → Int → Int → List Int → List (List Int) → Option (Bool)
  | 0, _, _, _, _, _, _, _ => none
  | k + 1, x1, x2, x3, x9, x10, x322000, x322001 => if x10 < (x2.length : Int) then (if 0 ≤ x10 then (if (rd x2 x10) = x3 then (caravanref13_Failed.l0 k x1 x2 x3 x9 (wrap64 (x10 + 1)) x322000 x322001) else (if (rd x2 x10) = x1 then (caravanref13_Failed.l0 k x1 x2 x3 (wrap64 (x9 + 1)) (wrap64 (x10 + 1)) x322000 x322001) else (if (rd x2 x10) ≥ 0 then (if (rd x2 x10) < (x322001.length : Int) then (if 0 ≤ (rd x2 x10) then ((caravanref13_in.f k (rd_L1 x322001 (rd x2 x10)) x3).bind fun t328 => (if t328 = true then (caravanref13_Failed.l0 k x1 x2 x3 (wrap64 (x9 + 1)) (wrap64 (x10 + 1)) x322000 x322001) else (caravanref13_Failed.l0 k x1 x2 x3 x9 (wrap64 (x10 + 1)) x322000 x322001))) else (none)) else (caravanref13_Failed.l0 k x1 x2 x3 x9 (wrap64 (x10 + 1)) x322000 x322001)) else (caravanref13_Failed.l0 k x1 x2 x3 x9 (wrap64 (x10 + 1)) x322000 x322001)))) else (none)) else (some (decide (x9 > (wrap64 ((x2.length : Int) - x9)))))
end
def caravanref13_Failed.f (k : Nat) (l0_0 : List Int) (l0_1 : List (List Int)) (a1 : Int) (l2 : List Int) (a3 : Int) : Option (Bool) := if a3 = a1 then (caravanref13_Failed.j0 k a1 l2 a3 true l0_0 l0_1) else ((caravanref13_Suspects.f k l0_0 l0_1).bind fun t322 => ((caravanref13_in.f k t322 a3).bind fun t325 => (caravanref13_Failed.j0 k a1 l2 a3 (!t325) l0_0 l0_1)))
theorem caravanref13_Failed.mono_l : ∀ k, (∀ y0 y1 y2 y3 y4 y5, LeO (caravanref13_Failed.j0 k y0 y1 y2 y3 y4 y5) (caravanref13_Failed.j0 (k + 1) y0 y1 y2 y3 y4 y5)) ∧ (∀ y0 y1 y2 y3 y4 y5 y6, LeO (caravanref13_Failed.l0 k y0 y1 y2 y3 y4 y5 y6) (caravanref13_Failed.l0 (k + 1) y0 y1 y2 y3 y4 y5 y6))
  | 0 => ⟨fun _ _ _ _ _ _ r h => by simp [caravanref13_Failed.j0] at h, fun _ _ _ _ _ _ _ r h => by simp [caravanref13_Failed.l0] at h⟩
  | k + 1 => by
    obtain ⟨ih0, ih1⟩ := caravanref13_Failed.mono_l k
    refine ⟨?_, ?_⟩
    · intro y0 y1 y2 y3 y4 y5
      unfold caravanref13_Failed.j0
      repeat' first
      | (with_reducible exact ih0 _ _ _ _ _ _)
      | (with_reducible exact ih1 _ _ _ _ _ _ _)
      | (with_reducible exact caravanref13_Suspects.mono _ _ _)
      | (with_reducible exact caravanref13_in.mono _ _ _)
      | (with_reducible exact LeO.refl _)
      | (with_reducible exact LeO.none _)
      | (with_reducible refine LeO.ite ?_ ?_)
      | (with_reducible refine LeO.bind ?_ (fun _ => ?_))
      | exact ih0 _ _ _ _ _ _
      | exact ih1 _ _ _ _ _ _ _
      | exact caravanref13_Suspects.mono _ _ _
      | exact caravanref13_in.mono _ _ _
      | exact LeO.none _
      | refine LeO.ite ?_ ?_
      | refine LeO.bind ?_ (fun _ => ?_)
    · intro y0 y1 y2 y3 y4 y5 y6
      unfold caravanref13_Failed.l0
      repeat' first
      | (with_reducible exact ih0 _ _ _ _ _ _)
      | (with_reducible exact ih1 _ _ _ _ _ _ _)
      | (with_reducible exact caravanref13_Suspects.mono _ _ _)
      | (with_reducible exact caravanref13_in.mono _ _ _)
      | (with_reducible exact LeO.refl _)
      | (with_reducible exact LeO.none _)
      | (with_reducible refine LeO.ite ?_ ?_)
      | (with_reducible refine LeO.bind ?_ (fun _ => ?_))
      | exact ih0 _ _ _ _ _ _
      | exact ih1 _ _ _ _ _ _ _
      | exact caravanref13_Suspects.mono _ _ _
      | exact caravanref13_in.mono _ _ _
      | exact LeO.none _
      | refine LeO.ite ?_ ?_
      | refine LeO.bind ?_ (fun _ => ?_)
theorem caravanref13_Failed.mono : ∀ a0 a1 a2 a3 a4 k, LeO (caravanref13_Failed.f k a0 a1 a2 a3 a4) (caravanref13_Failed.f (k + 1) a0 a1 a2 a3 a4) := by
  intro a0 a1 a2 a3 a4 k
  obtain ⟨ih0, ih1⟩ := caravanref13_Failed.mono_l k
  unfold caravanref13_Failed.f
  repeat' first
      | (with_reducible exact ih0 _ _ _ _ _ _)
      | (with_reducible exact ih1 _ _ _ _ _ _ _)
      | (with_reducible exact caravanref13_Suspects.mono _ _ _)
      | (with_reducible exact caravanref13_in.mono _ _ _)
      | (with_reducible exact LeO.refl _)
      | (with_reducible exact LeO.none _)
      | (with_reducible refine LeO.ite ?_ ?_)
      | (with_reducible refine LeO.bind ?_ (fun _ => ?_))
      | exact ih0 _ _ _ _ _ _
      | exact ih1 _ _ _ _ _ _ _
      | exact caravanref13_Suspects.mono _ _ _
      | exact caravanref13_in.mono _ _ _
      | exact LeO.none _
      | refine LeO.ite ?_ ?_
      | refine LeO.bind ?_ (fun _ => ?_)
set_option maxHeartbeats 8000000 in
set_option maxRecDepth 100000 in
theorem caravanref13_Failed.calls (k : Nat) (A0_0 : Option Addr) (c0_0 : Nat) (l0_0 : List Int) (A0_1 : Option Addr) (c0_1 : Nat) (l0_1 : List (List Int)) (a1 : Int) (A2 : Option Addr) (c2 : Nat) (l2 : List Int) (a3 : Int) (r : Bool) (w : World) (hr0_0 : Kd.C (Kd.int .i64) w A0_0 l0_0.length l0_0) (hc0_0 : l0_0.length ≤ c0_0) (hr0_1 : Kd.C (Kd.slice 3 (Kd.int .i64)) w A0_1 l0_1.length l0_1) (hc0_1 : l0_1.length ≤ c0_1) (hr2 : Kd.C (Kd.int .i64) w A2 l2.length l2) (hc2 : l2.length ≤ c2) (h : caravanref13_Failed.f k l0_0 l0_1 a1 l2 a3 = some r) :
    Calls Try.prog 20 #[.agg #[.slice A0_0 l0_0.length c0_0, .slice A0_1 l0_1.length c0_1], .int .i64 a1, .slice A2 l2.length c2, .int .i64 a3] w fun e w' => e = .returned (.bool r) ∧ Below w.heap.size w w' := by
  have hu27 := Try.underlying27
  have HR0_0 := Aside0.mk hr0_0
  have HC0_0 := Aside0.mk hc0_0
  clear hr0_0 hc0_0
  have HR0_1 := Aside0.mk hr0_1
  have HC0_1 := Aside0.mk hc0_1
  clear hr0_1 hc0_1
  have HR2 := Aside0.mk hr2
  have HC2 := Aside0.mk hc2
  clear hr2 hc2
  have HB := Aside0.mk (Below.refl w.heap.size w)
  have H : (if a3 = a1 then (caravanref13_Failed.j0 k a1 l2 a3 true l0_0 l0_1) else ((caravanref13_Suspects.f k l0_0 l0_1).bind fun t322 => ((caravanref13_in.f k t322 a3).bind fun t325 => (caravanref13_Failed.j0 k a1 l2 a3 (!t325) l0_0 l0_1)))) = some r := h
  clear h
  have HC5 := Aside0.mk H
  clear H
  go_enter Try.func20, Try.ntmps20
  go_upto_region 1 with (first | ((with_reducible refine gate_dst (N := 4) rfl ?_); (try (refine gate_guard (by rfl) ?_; dsimp only)); refine box_event ?hg (N := 4) ?hd (cs := #[.slice A0_0 l0_0.length c0_0, .slice A0_1 l0_1.length c0_1]) (t := 27) ?hr ?_; (case hd => rfl); (case hg => rfl); (case hr => first | (go_simp; done) | (go_simp; rfl)); intro gb321 hg w6 hbox hb; have n0_ := Aside0.mk (below_step (by repeat (first | (with_reducible first | exact HB.out | apply below_alloc | apply pw_below_drewN | apply below_drew1) | exact HB.out)) hb); have n1_ := Aside0.mk (hbox); have n2_ := Aside0.mk ((by rw [hg]; exact (below_size (by repeat (first | (with_reducible first | exact HB.out | apply below_alloc | apply pw_below_drewN | apply below_drew1) | exact HB.out))) : w.heap.size ≤ gb321)); have n3_ := Aside0.mk ((by rw [hg]; exact (below_size (by repeat (first | (with_reducible first | exact HB.out | apply below_alloc | apply pw_below_drewN | apply below_drew1) | exact HB.out))) : w.heap.size ≤ gb321)); clear HB; have HB := n0_; have BK321 := n1_; have GW321 := n2_; have GE321 := n3_; clear n0_ n1_ n2_ n3_; clear hb hbox hg))
  (try simp only [Act.put, List.setIfInBounds_toArray, List.set_cons_zero, List.set_cons_succ])
  go_cut [21] (fun v21 wc => ∃ (kq : Nat) (x21_4 : Bool), v21 = .bool x21_4 ∧ Aside0 (caravanref13_Failed.j0 kq a1 l2 a3 x21_4 l0_0 l0_1 = some r) ∧ Aside0 (kq ≤ k) ∧ Aside0 (wc.heap[gb321]? = some (.cells #[(.slice A0_0 l0_0.length c0_0), (.slice A0_1 l0_1.length c0_1)] 27 (0, 0))) ∧ Aside0 (Below w.heap.size w wc))
  case first =>
    have H := HC5.out
    clear HC5
    by_cases c7 : a3 = a1
    · rw [if_pos c7] at H
      have c7b0 : (a3 == a1) = true := beq_iff_eq.mpr c7
      have c7b1 : (a3 != a1) = false := bne_eq_false_iff_eq.mpr c7
      clear c7
      (first | rw [c7b0] | (simp only [i64_w, i32_w]; rw [c7b0]) | skip)
      have H' := Aside0.mk H
      clear H
      go_wp2
      go_meet
      case rel => exact ⟨_, (true), (by first | rfl | (simp; done) | (simp [*]; done)), H', ⟨by first | omega | exact Nat.le_refl _⟩, ⟨by (with_reducible repeat (first | refine blk_drewN ?_ _ | refine blk_drew ?_ | refine blk_alloc ?_ _)); exact BK321.out⟩, ⟨by repeat (first | (with_reducible first | exact HB.out | apply below_alloc | apply pw_below_drewN | apply below_drew1 | refine below_set ?_ GE321.out) | exact HB.out)⟩⟩
    · rw [if_neg c7] at H
      have c7b0 : (a3 == a1) = false := beq_eq_false_iff_ne.mpr c7
      have c7b1 : (a3 != a1) = true := bne_iff_ne.mpr c7
      (first | rw [c7b0] | (simp only [i64_w, i32_w]; rw [c7b0]) | skip)
      replace H := Option.bind_eq_some_iff.mp H
      obtain ⟨t322, A80, H⟩ := H
      replace H : ((caravanref13_in.f k t322 a3).bind fun t325 => (caravanref13_Failed.j0 k a1 l2 a3 (!t325) l0_0 l0_1)) = some r := H
      have A8 := Aside0.mk A80
      clear A80
      replace H := Option.bind_eq_some_iff.mp H
      obtain ⟨t325, A90, H⟩ := H
      replace H : (caravanref13_Failed.j0 k a1 l2 a3 (!t325) l0_0 l0_1) = some r := H
      have A9 := Aside0.mk A90
      clear A90
      have H' := Aside0.mk H
      clear H
      have hcz10_0 : w6.cell? ⟨gb321, 0, none⟩ = some (.slice A0_0 l0_0.length c0_0) := (blk_cell BK321.out 0).trans rfl
      have hcz10_1 : w6.cell? ⟨gb321, 1, none⟩ = some (.slice A0_1 l0_1.length c0_1) := (blk_cell BK321.out 1).trans rfl
      have hfz10_0 := blk_frozen BK321.out 0
      have hfz10_1 := blk_frozen BK321.out 1
      go_wp2_with (first | ((with_reducible refine gate_dst (N := 17) rfl ?_); (try (refine gate_guard (by rfl) ?_; dsimp only)); (try (refine gate_guard (by rfl) ?_; dsimp only)); refine goesL_ (some 17) rfl rfl Try.func18 (by kernel_rfl) rfl #[.agg #[.slice A0_0 l0_0.length c0_0, .slice A0_1 l0_1.length c0_1]] rfl (by (try simp only [List.map_toArray, List.map_cons, List.map_nil]); first | done | rfl | (simp only [List.length_drop, List.length_take]; rfl)) ?_; (with_reducible refine (caravanref13_Suspects.calls k _ _ l0_0 _ _ l0_1 t322 _ ?side1 ?side2 ?side3 ?side4 A8.out).mono ?_); (case side1 => repeat (first | exact (Kd.C_below HR0_0.out HB.out) | (with_reducible refine Kd.C_alloc ?_ _) | (with_reducible refine Kd.C_drewN ?_ _) | (with_reducible refine Kd.C_drew ?_))); (case side2 => exact HC0_0.out); (case side3 => repeat (first | exact (Kd.C_below HR0_1.out HB.out) | (with_reducible refine Kd.C_alloc ?_ _) | (with_reducible refine Kd.C_drewN ?_ _) | (with_reducible refine Kd.C_drew ?_))); (case side4 => exact HC0_1.out); rintro e w11 ⟨v323, rfl, ho0, hb⟩; refine ⟨_, rfl, ?_⟩; have n0_ := Aside0.mk (Kd.R_lower ho0 (below_size (by repeat (first | (with_reducible first | exact HB.out | apply below_alloc | apply pw_below_drewN | apply below_drew1 | refine below_set ?_ GE321.out) | exact HB.out)))); have n1_ := Aside0.mk (blk_below (g := gb321) (o := .cells #[.slice A0_0 l0_0.length c0_0, .slice A0_1 l0_1.length c0_1] 27 (0, 0)) (by (with_reducible repeat (first | refine blk_drewN ?_ _ | refine blk_drew ?_ | refine blk_alloc ?_ _)); exact BK321.out) hb); have n2_ := Aside0.mk (below_step (by repeat (first | (with_reducible first | exact HB.out | apply below_alloc | apply pw_below_drewN | apply below_drew1 | refine below_set ?_ GE321.out) | exact HB.out)) hb); clear BK321; clear HB; have HO324 := n0_; have BK321 := n1_; have HB := n2_; clear n0_ n1_ n2_; (try clear hb); (try clear hb2); (try clear hk); (try clear hi); (try clear ho0); obtain ⟨Ao12, co12, eo12⟩ := Kd.R_slice HO324.out; subst eo12) | ((with_reducible refine gate_dst (N := 19) rfl ?_); (try (refine gate_guard (by rfl) ?_; dsimp only)); (try (refine gate_guard (by rfl) ?_; dsimp only)); refine goesL_ (some 19) rfl rfl Try.func25 (by kernel_rfl) rfl #[.slice Ao12 t322.length co12, .int .i64 a3] rfl (by (try simp only [List.map_toArray, List.map_cons, List.map_nil]); first | done | rfl | (simp only [List.length_drop, List.length_take]; rfl)) ?_; (with_reducible refine (caravanref13_in.calls k _ _ t322 a3 t325 _ ?side1 ?side2 A9.out).mono ?_); (case side1 => repeat (first | exact (Kd.R_reads' HO324.out).2.2 | (with_reducible refine Kd.C_alloc ?_ _) | (with_reducible refine Kd.C_drewN ?_ _) | (with_reducible refine Kd.C_drew ?_))); (case side2 => exact (Kd.R_reads' HO324.out).2.1); rintro e w' ⟨rfl, ⟨nd, rfl⟩⟩; refine ⟨_, rfl, ?_⟩))
      go_meet
      case rel => exact ⟨_, (!t325), (by first | rfl | (simp; done) | (simp [*]; done)), H', ⟨by first | omega | exact Nat.le_refl _⟩, ⟨by (with_reducible repeat (first | refine blk_drewN ?_ _ | refine blk_drew ?_ | refine blk_alloc ?_ _)); exact BK321.out⟩, ⟨by repeat (first | (with_reducible first | exact HB.out | apply below_alloc | apply pw_below_drewN | apply below_drew1 | refine below_set ?_ GE321.out) | exact HB.out)⟩⟩
  case rest =>
    clear HC5
    try clear c1
    try clear c2
    try clear p2
    try clear c7
    try clear c7b0
    try clear c7b1
    try clear hcz10_0
    try clear hcz10_1
    try clear hfz10_0
    try clear hfz10_1
    obtain ⟨kq, x21_4, rfl, HA, HJ4, BK321, HB⟩ := hcut
    cases kq with
    | zero => exact absurd HA.out (by simp [caravanref13_Failed.j0])
    | succ kj4 =>
      have H := HA.out
      clear HA
      simp only [caravanref13_Failed.j0] at H
      by_cases c13 : x21_4 = true
      · subst c13
        have H1 : (some false) = some r := by rw [if_pos rfl] at H; exact H
        clear H
        have H := H1
        clear H1
        obtain rfl := Option.some.inj H
        go_wp2
        go_ret
        exact ⟨by first | rfl | (simp [errW_none, errW_some] <;> rfl) | (simp [*, errW_none, errW_some] <;> rfl), by repeat (first | (with_reducible first | exact HB.out | apply below_alloc | apply pw_below_drewN | apply below_drew1 | refine below_set ?_ GE321.out) | exact HB.out)⟩
      · replace c13 := Bool.eq_false_iff.mpr c13
        subst c13
        have H1 : (caravanref13_Failed.l0 kj4 a1 l2 a3 0 0 l0_0 l0_1) = some r := by rw [if_neg (show ¬ (false = true) by decide)] at H; exact H
        clear H
        have H := H1
        clear H1
        have H' := Aside0.mk H
        clear H
        go_wp2
        go_loopg [9, 10] kj4 (fun kq v9 v10 w' => ∃ (x9_2 : Int) (x10_2 : Int), v9 = .int .i64 x9_2 ∧ v10 = .int .i64 x10_2 ∧ Aside0 (caravanref13_Failed.l0 kq a1 l2 a3 x9_2 x10_2 l0_0 l0_1 = some r) ∧ Aside0 (kq ≤ kj4) ∧ Aside0 (w'.heap[gb321]? = some (.cells #[(.slice A0_0 l0_0.length c0_0), (.slice A0_1 l0_1.length c0_1)] 27 (0, 0))) ∧ Aside0 (Below w.heap.size w w'))
        case atStart => exact ⟨(0), (0), (by first | rfl | (simp; done) | (simp [*]; done)), (by first | rfl | (simp; done) | (simp [*]; done)), H', ⟨Nat.le_refl _⟩, ⟨by (with_reducible repeat (first | refine blk_drewN ?_ _ | refine blk_drew ?_ | refine blk_alloc ?_ _)); exact BK321.out⟩, ⟨by repeat (first | (with_reducible first | exact HB.out | apply below_alloc | apply pw_below_drewN | apply below_drew1 | refine below_set ?_ GE321.out) | exact HB.out)⟩⟩
        case round =>
          clear H'
          try clear c1
          try clear c2
          try clear p2
          try clear c7
          try clear c7b0
          try clear c7b1
          try clear c13
          try clear hcz10_0
          try clear hcz10_1
          try clear hfz10_0
          try clear hfz10_1
          try clear p2
          obtain ⟨x9_2, x10_2, rfl, rfl, HA, HK2, BK321, HB⟩ := hrel
          cases gk with
          | zero => exact absurd HA.out (by simp [caravanref13_Failed.l0])
          | succ k2 =>
            have H := HA.out
            clear HA
            simp only [caravanref13_Failed.l0] at H
            by_cases c14 : x10_2 < (l2.length : Int)
            · rw [if_pos c14] at H
              have c14b0 : decide (x10_2 < (l2.length : Int)) = true := decide_eq_true c14
              clear c14
              by_cases c15 : 0 ≤ x10_2
              · rw [if_pos c15] at H
                have c15b0 : decide (0 ≤ x10_2) = true := decide_eq_true c15
                clear c15
                by_cases c16 : (rd l2 x10_2) = a3
                · rw [if_pos c16] at H
                  have c16b0 : ((rd l2 x10_2) == a3) = true := beq_iff_eq.mpr c16
                  have c16b1 : ((rd l2 x10_2) != a3) = false := bne_eq_false_iff_eq.mpr c16
                  clear c16
                  have H' := Aside0.mk H
                  clear H
                  have p326 : 0 ≤ (x10_2 : Int) := of_decide_eq_true (by first | (with_reducible assumption) | assumption)
                  have q326 : x10_2 < (l2.length : Int) := of_decide_eq_true (by first | (with_reducible assumption) | assumption)
                  obtain ⟨ad326, e326, hx326_0⟩ := Kd.at_int HR2.out x10_2 p326 q326
                  cases e326
                  replace hx326_0 := (HB.out.cell (World.block_lt_of_cell? w _ hx326_0)).trans hx326_0
                  replace p326 := eq_true p326
                  replace q326 := eq_true q326
                  go_wp2
                  go_roundg k2
                  case measure => have := HJ4.out; have := HK2.out; omega
                  case rel => exact ⟨(x9_2), (wrap64 (x10_2 + 1)), (by first | rfl | (simp; done) | (simp [*]; done)), (by first | rfl | (simp; done) | (simp [*]; done)), H', ⟨by have := HJ4.out; have := HK2.out; omega⟩, ⟨by (with_reducible repeat (first | refine blk_drewN ?_ _ | refine blk_drew ?_ | refine blk_alloc ?_ _)); exact BK321.out⟩, ⟨by repeat (first | (with_reducible first | exact HB.out | apply below_alloc | apply pw_below_drewN | apply below_drew1 | refine below_set ?_ GE321.out) | exact HB.out)⟩⟩
                · rw [if_neg c16] at H
                  have c16b0 : ((rd l2 x10_2) == a3) = false := beq_eq_false_iff_ne.mpr c16
                  have c16b1 : ((rd l2 x10_2) != a3) = true := bne_iff_ne.mpr c16
                  by_cases c17 : (rd l2 x10_2) = a1
                  · rw [if_pos c17] at H
                    have c17b0 : ((rd l2 x10_2) == a1) = true := beq_iff_eq.mpr c17
                    have c17b1 : ((rd l2 x10_2) != a1) = false := bne_eq_false_iff_eq.mpr c17
                    clear c17
                    have H' := Aside0.mk H
                    clear H
                    have p326 : 0 ≤ (x10_2 : Int) := of_decide_eq_true (by first | (with_reducible assumption) | assumption)
                    have q326 : x10_2 < (l2.length : Int) := of_decide_eq_true (by first | (with_reducible assumption) | assumption)
                    obtain ⟨ad326, e326, hx326_0⟩ := Kd.at_int HR2.out x10_2 p326 q326
                    cases e326
                    replace hx326_0 := (HB.out.cell (World.block_lt_of_cell? w _ hx326_0)).trans hx326_0
                    replace p326 := eq_true p326
                    replace q326 := eq_true q326
                    go_wp2
                    go_roundg k2
                    case measure => have := HJ4.out; have := HK2.out; omega
                    case rel => exact ⟨(wrap64 (x9_2 + 1)), (wrap64 (x10_2 + 1)), (by first | rfl | (simp; done) | (simp [*]; done)), (by first | rfl | (simp; done) | (simp [*]; done)), H', ⟨by have := HJ4.out; have := HK2.out; omega⟩, ⟨by (with_reducible repeat (first | refine blk_drewN ?_ _ | refine blk_drew ?_ | refine blk_alloc ?_ _)); exact BK321.out⟩, ⟨by repeat (first | (with_reducible first | exact HB.out | apply below_alloc | apply pw_below_drewN | apply below_drew1 | refine below_set ?_ GE321.out) | exact HB.out)⟩⟩
                  · rw [if_neg c17] at H
                    have c17b0 : ((rd l2 x10_2) == a1) = false := beq_eq_false_iff_ne.mpr c17
                    have c17b1 : ((rd l2 x10_2) != a1) = true := bne_iff_ne.mpr c17
                    by_cases c18 : (rd l2 x10_2) ≥ 0
                    · rw [if_pos c18] at H
                      have c18b0 : decide (0 ≤ (rd l2 x10_2)) = true := decide_eq_true c18
                      clear c18
                      by_cases c19 : (rd l2 x10_2) < (l0_1.length : Int)
                      · rw [if_pos c19] at H
                        have c19b0 : decide ((rd l2 x10_2) < (l0_1.length : Int)) = true := decide_eq_true c19
                        clear c19
                        by_cases c20 : 0 ≤ (rd l2 x10_2)
                        · rw [if_pos c20] at H
                          have c20b0 : decide (0 ≤ (rd l2 x10_2)) = true := decide_eq_true c20
                          clear c20
                          replace H := Option.bind_eq_some_iff.mp H
                          obtain ⟨t328, A210, H⟩ := H
                          replace H : (if t328 = true then (caravanref13_Failed.l0 k2 a1 l2 a3 (wrap64 (x9_2 + 1)) (wrap64 (x10_2 + 1)) l0_0 l0_1) else (caravanref13_Failed.l0 k2 a1 l2 a3 x9_2 (wrap64 (x10_2 + 1)) l0_0 l0_1)) = some r := H
                          have A21 := Aside0.mk A210
                          clear A210
                          by_cases c22 : t328 = true
                          · subst c22
                            have H1 : (caravanref13_Failed.l0 k2 a1 l2 a3 (wrap64 (x9_2 + 1)) (wrap64 (x10_2 + 1)) l0_0 l0_1) = some r := by rw [if_pos rfl] at H; exact H
                            clear H
                            have H := H1
                            clear H1
                            have H' := Aside0.mk H
                            clear H
                            have p326 : 0 ≤ (x10_2 : Int) := of_decide_eq_true (by first | (with_reducible assumption) | assumption)
                            have q326 : x10_2 < (l2.length : Int) := of_decide_eq_true (by first | (with_reducible assumption) | assumption)
                            obtain ⟨ad326, e326, hx326_0⟩ := Kd.at_int HR2.out x10_2 p326 q326
                            cases e326
                            replace hx326_0 := (HB.out.cell (World.block_lt_of_cell? w _ hx326_0)).trans hx326_0
                            replace p326 := eq_true p326
                            replace q326 := eq_true q326
                            have hcz23_0 : wr.cell? ⟨gb321, 0, none⟩ = some (.slice A0_0 l0_0.length c0_0) := (blk_cell BK321.out 0).trans rfl
                            have hcz23_1 : wr.cell? ⟨gb321, 1, none⟩ = some (.slice A0_1 l0_1.length c0_1) := (blk_cell BK321.out 1).trans rfl
                            have hfz23_0 := blk_frozen BK321.out 0
                            have hfz23_1 := blk_frozen BK321.out 1
                            have p327 : 0 ≤ ((rd l2 x10_2) : Int) := of_decide_eq_true (by first | (with_reducible assumption) | assumption)
                            have q327 : (rd l2 x10_2) < (l0_1.length : Int) := of_decide_eq_true (by first | (with_reducible assumption) | assumption)
                            obtain ⟨ad327, A327_0, c327_0, e327, hx327_0, hl327_0, hi327_0⟩ := at_L1 HR0_1.out (rd l2 x10_2) p327 q327
                            cases e327
                            replace hx327_0 := (HB.out.cell (World.block_lt_of_cell? w _ hx327_0)).trans hx327_0
                            have HR327_0 := Aside0.mk hi327_0
                            have HC327_0 := Aside0.mk hl327_0
                            clear hi327_0 hl327_0
                            replace p327 := eq_true p327
                            replace q327 := eq_true q327
                            go_wp2_with (first | ((with_reducible refine gate_dst (N := 56) rfl ?_); (try (refine gate_guard (by rfl) ?_; dsimp only)); (try (refine gate_guard (by rfl) ?_; dsimp only)); refine goesL_ (some 56) rfl rfl Try.func25 (by kernel_rfl) rfl #[.slice A327_0 (rd_L1 l0_1 (rd l2 x10_2)).length c327_0, .int .i64 a3] rfl (by (try simp only [List.map_toArray, List.map_cons, List.map_nil]); first | done | rfl | (simp only [List.length_drop, List.length_take]; rfl)) ?_; (with_reducible refine (caravanref13_in.calls k2 _ _ (rd_L1 l0_1 (rd l2 x10_2)) a3 true _ ?side1 ?side2 A21.out).mono ?_); (case side1 => repeat (first | exact (Kd.C_below HR327_0.out HB.out) | (with_reducible refine Kd.C_alloc ?_ _) | (with_reducible refine Kd.C_drewN ?_ _) | (with_reducible refine Kd.C_drew ?_))); (case side2 => exact HC327_0.out); rintro e w' ⟨rfl, ⟨nd, rfl⟩⟩; refine ⟨_, rfl, ?_⟩))
                            go_roundg k2
                            case measure => have := HJ4.out; have := HK2.out; omega
                            case rel => exact ⟨(wrap64 (x9_2 + 1)), (wrap64 (x10_2 + 1)), (by first | rfl | (simp; done) | (simp [*]; done)), (by first | rfl | (simp; done) | (simp [*]; done)), H', ⟨by have := HJ4.out; have := HK2.out; omega⟩, ⟨by (with_reducible repeat (first | refine blk_drewN ?_ _ | refine blk_drew ?_ | refine blk_alloc ?_ _)); exact BK321.out⟩, ⟨by repeat (first | (with_reducible first | exact HB.out | apply below_alloc | apply pw_below_drewN | apply below_drew1 | refine below_set ?_ GE321.out) | exact HB.out)⟩⟩
                          · replace c22 := Bool.eq_false_iff.mpr c22
                            subst c22
                            have H1 : (caravanref13_Failed.l0 k2 a1 l2 a3 x9_2 (wrap64 (x10_2 + 1)) l0_0 l0_1) = some r := by rw [if_neg (show ¬ (false = true) by decide)] at H; exact H
                            clear H
                            have H := H1
                            clear H1
                            have H' := Aside0.mk H
                            clear H
                            have p326 : 0 ≤ (x10_2 : Int) := of_decide_eq_true (by first | (with_reducible assumption) | assumption)
                            have q326 : x10_2 < (l2.length : Int) := of_decide_eq_true (by first | (with_reducible assumption) | assumption)
                            obtain ⟨ad326, e326, hx326_0⟩ := Kd.at_int HR2.out x10_2 p326 q326
                            cases e326
                            replace hx326_0 := (HB.out.cell (World.block_lt_of_cell? w _ hx326_0)).trans hx326_0
                            replace p326 := eq_true p326
                            replace q326 := eq_true q326
                            have hcz24_0 : wr.cell? ⟨gb321, 0, none⟩ = some (.slice A0_0 l0_0.length c0_0) := (blk_cell BK321.out 0).trans rfl
                            have hcz24_1 : wr.cell? ⟨gb321, 1, none⟩ = some (.slice A0_1 l0_1.length c0_1) := (blk_cell BK321.out 1).trans rfl
                            have hfz24_0 := blk_frozen BK321.out 0
                            have hfz24_1 := blk_frozen BK321.out 1
                            have p327 : 0 ≤ ((rd l2 x10_2) : Int) := of_decide_eq_true (by first | (with_reducible assumption) | assumption)
                            have q327 : (rd l2 x10_2) < (l0_1.length : Int) := of_decide_eq_true (by first | (with_reducible assumption) | assumption)
                            obtain ⟨ad327, A327_0, c327_0, e327, hx327_0, hl327_0, hi327_0⟩ := at_L1 HR0_1.out (rd l2 x10_2) p327 q327
                            cases e327
                            replace hx327_0 := (HB.out.cell (World.block_lt_of_cell? w _ hx327_0)).trans hx327_0
                            have HR327_0 := Aside0.mk hi327_0
                            have HC327_0 := Aside0.mk hl327_0
                            clear hi327_0 hl327_0
                            replace p327 := eq_true p327
                            replace q327 := eq_true q327
                            go_wp2_with (first | ((with_reducible refine gate_dst (N := 56) rfl ?_); (try (refine gate_guard (by rfl) ?_; dsimp only)); (try (refine gate_guard (by rfl) ?_; dsimp only)); refine goesL_ (some 56) rfl rfl Try.func25 (by kernel_rfl) rfl #[.slice A327_0 (rd_L1 l0_1 (rd l2 x10_2)).length c327_0, .int .i64 a3] rfl (by (try simp only [List.map_toArray, List.map_cons, List.map_nil]); first | done | rfl | (simp only [List.length_drop, List.length_take]; rfl)) ?_; (with_reducible refine (caravanref13_in.calls k2 _ _ (rd_L1 l0_1 (rd l2 x10_2)) a3 false _ ?side1 ?side2 A21.out).mono ?_); (case side1 => repeat (first | exact (Kd.C_below HR327_0.out HB.out) | (with_reducible refine Kd.C_alloc ?_ _) | (with_reducible refine Kd.C_drewN ?_ _) | (with_reducible refine Kd.C_drew ?_))); (case side2 => exact HC327_0.out); rintro e w' ⟨rfl, ⟨nd, rfl⟩⟩; refine ⟨_, rfl, ?_⟩))
                            go_roundg k2
                            case measure => have := HJ4.out; have := HK2.out; omega
                            case rel => exact ⟨(x9_2), (wrap64 (x10_2 + 1)), (by first | rfl | (simp; done) | (simp [*]; done)), (by first | rfl | (simp; done) | (simp [*]; done)), H', ⟨by have := HJ4.out; have := HK2.out; omega⟩, ⟨by (with_reducible repeat (first | refine blk_drewN ?_ _ | refine blk_drew ?_ | refine blk_alloc ?_ _)); exact BK321.out⟩, ⟨by repeat (first | (with_reducible first | exact HB.out | apply below_alloc | apply pw_below_drewN | apply below_drew1 | refine below_set ?_ GE321.out) | exact HB.out)⟩⟩
                        · rw [if_neg c20] at H
                          exact absurd H (by simp)
                      · rw [if_neg c19] at H
                        have c19b0 : decide ((rd l2 x10_2) < (l0_1.length : Int)) = false := decide_eq_false c19
                        clear c19
                        have H' := Aside0.mk H
                        clear H
                        have p326 : 0 ≤ (x10_2 : Int) := of_decide_eq_true (by first | (with_reducible assumption) | assumption)
                        have q326 : x10_2 < (l2.length : Int) := of_decide_eq_true (by first | (with_reducible assumption) | assumption)
                        obtain ⟨ad326, e326, hx326_0⟩ := Kd.at_int HR2.out x10_2 p326 q326
                        cases e326
                        replace hx326_0 := (HB.out.cell (World.block_lt_of_cell? w _ hx326_0)).trans hx326_0
                        replace p326 := eq_true p326
                        replace q326 := eq_true q326
                        have hcz25_0 : wr.cell? ⟨gb321, 0, none⟩ = some (.slice A0_0 l0_0.length c0_0) := (blk_cell BK321.out 0).trans rfl
                        have hcz25_1 : wr.cell? ⟨gb321, 1, none⟩ = some (.slice A0_1 l0_1.length c0_1) := (blk_cell BK321.out 1).trans rfl
                        have hfz25_0 := blk_frozen BK321.out 0
                        have hfz25_1 := blk_frozen BK321.out 1
                        go_wp2
                        go_roundg k2
                        case measure => have := HJ4.out; have := HK2.out; omega
                        case rel => exact ⟨(x9_2), (wrap64 (x10_2 + 1)), (by first | rfl | (simp; done) | (simp [*]; done)), (by first | rfl | (simp; done) | (simp [*]; done)), H', ⟨by have := HJ4.out; have := HK2.out; omega⟩, ⟨by (with_reducible repeat (first | refine blk_drewN ?_ _ | refine blk_drew ?_ | refine blk_alloc ?_ _)); exact BK321.out⟩, ⟨by repeat (first | (with_reducible first | exact HB.out | apply below_alloc | apply pw_below_drewN | apply below_drew1 | refine below_set ?_ GE321.out) | exact HB.out)⟩⟩
                    · rw [if_neg c18] at H
                      have c18b0 : decide (0 ≤ (rd l2 x10_2)) = false := decide_eq_false c18
                      clear c18
                      have H' := Aside0.mk H
                      clear H
                      have p326 : 0 ≤ (x10_2 : Int) := of_decide_eq_true (by first | (with_reducible assumption) | assumption)
                      have q326 : x10_2 < (l2.length : Int) := of_decide_eq_true (by first | (with_reducible assumption) | assumption)
                      obtain ⟨ad326, e326, hx326_0⟩ := Kd.at_int HR2.out x10_2 p326 q326
                      cases e326
                      replace hx326_0 := (HB.out.cell (World.block_lt_of_cell? w _ hx326_0)).trans hx326_0
                      replace p326 := eq_true p326
                      replace q326 := eq_true q326
                      go_wp2
                      go_roundg k2
                      case measure => have := HJ4.out; have := HK2.out; omega
                      case rel => exact ⟨(x9_2), (wrap64 (x10_2 + 1)), (by first | rfl | (simp; done) | (simp [*]; done)), (by first | rfl | (simp; done) | (simp [*]; done)), H', ⟨by have := HJ4.out; have := HK2.out; omega⟩, ⟨by (with_reducible repeat (first | refine blk_drewN ?_ _ | refine blk_drew ?_ | refine blk_alloc ?_ _)); exact BK321.out⟩, ⟨by repeat (first | (with_reducible first | exact HB.out | apply below_alloc | apply pw_below_drewN | apply below_drew1 | refine below_set ?_ GE321.out) | exact HB.out)⟩⟩
              · rw [if_neg c15] at H
                exact absurd H (by simp)
            · rw [if_neg c14] at H
              have c14b0 : decide (x10_2 < (l2.length : Int)) = false := decide_eq_false c14
              clear c14
              obtain rfl := Option.some.inj H
              go_wp2
              go_ret
              exact ⟨by first | rfl | (simp [errW_none, errW_some] <;> rfl) | (simp [*, errW_none, errW_some] <;> rfl), by repeat (first | (with_reducible first | exact HB.out | apply below_alloc | apply pw_below_drewN | apply below_drew1 | refine below_set ?_ GE321.out) | exact HB.out)⟩

end Go.Proofs.Ytbjpopooijhpdaa.WX

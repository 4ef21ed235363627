/- The machine side of a law: what Go functions compute, as Lean functions, and the proofs of it. Conditions: none. (Written by wip/myprint.py of this session's repo.) -/
import Derived.Test.YtbjpopooijhpdaaWXx0
import Derived.Test.YtbjpopooijhpdaaWXx1
import Derived.Test.YtbjpopooijhpdaaWXx2
namespace Go.Proofs.Ytbjpopooijhpdaa.WX
open Go.RowKit Go.Proofs.YtbjpopooijhpdaaW.PrintWords Go.Proofs.YtbjpopooijhpdaaW.PrintLast Go.Proofs.YtbjpopooijhpdaaW.PrintMore
attribute [local go_sem] max2_int min2_int max_two min_two max_three min_three max_four min_four   -- for this text's walks alone
set_option linter.unusedVariables false
set_option linter.unusedSimpArgs false

/-! ### caravanlaw17_WatchRuns: function 3 -/
mutual
def caravanlaw17_WatchRuns.l0 : Nat → List Int → Int → List Int → Int → List Int → List (List Int) → Option (Bool)
  | 0, _, _, _, _, _, _ => none
  | k + 1, x0, x6, x7, x8, x162000, x162001 => if x8 < (x0.length : Int) then (if 0 ≤ x8 then (if (Int.tmod (wrap64 (rd x0 x8)) 8) < 5 then (caravanlaw17_WatchRuns.j1 k x0 x6 x7 x8 (Int.tmod (wrap64 (rd x0 x8)) 8) ((Int.tmod (wrap64 (rd x0 x8)) 8) != x6) x162000 x162001) else (caravanlaw17_WatchRuns.j1 k x0 x6 x7 x8 (Int.tmod (wrap64 (rd x0 x8)) 8) false x162000 x162001)) else (none)) else ((caravanlaw17_awake.f k).bind fun t165 => (some t165))
def caravanlaw17_WatchRuns.j1 : Nat → List Int → Int → List Int → Int → Int → Bool → List Int → List (List Int) → Option (Bool)
  | 0, _, _, _, _, _, _, _, _ => none
  | k + 1, x0, x6, x7, x8, x9, x40, x162000, x162001 => if x40 = true then ((watch_Heard.f x162000 x162001 x9 ([] : List Int)).bind fun bt167 => (if 0 ≤ x9 then (if x9 < (x7.length : Int) then (caravanlaw17_WatchRuns.j3 k x0 x6 (x7.set (x9 : Int).toNat 0) x8 bt167.1 bt167.2) else (none)) else (none))) else ((watch_Tick.f k x162000 x162001 x6).bind fun bt174 => (caravanlaw17_WatchRuns.l1 k x0 x6 x7 x8 0 bt174.1 bt174.2))
def caravanlaw17_WatchRuns.j3 : Nat → List Int → Int → List Int → Int → List Int → List (List Int) → Option (Bool)
  | 0, _, _, _, _, _, _ => none
  | k + 1, x0, x6, x7, x8, x162000, x162001 => if 0 ≤ x6 then (if x6 < (x7.length : Int) then (caravanlaw17_WatchRuns.l2 k x0 x6 (x7.set (x6 : Int).toNat 0) x8 ([] : List Int) 0 x162000 x162001) else (none)) else (none)
def caravanlaw17_WatchRuns.l2 : Nat → List Int → Int → List Int → Int → List Int → Int → List Int → List (List Int) → Option (Bool)
  | 0, _, _, _, _, _, _, _, _ => none
  | k + 1, x0, x6, x7, x8, x11, x12, x162000, x162001 => if x12 < 5 then (if 0 ≤ x12 then (if x12 < (x7.length : Int) then (if (rd x7 x12) ≥ 6 then (if x11.length < 17592186044416 then (caravanlaw17_WatchRuns.l2 k x0 x6 x7 x8 (x11 ++ [x12]) (wrap64 (x12 + 1)) x162000 x162001) else (none)) else (caravanlaw17_WatchRuns.l2 k x0 x6 x7 x8 x11 (wrap64 (x12 + 1)) x162000 x162001)) else (none)) else (none)) else ((watch_Suspects.f k x162000 x162001).bind fun t187 => ((caravanref1_Ints.f k t187 x11).bind fun t190 => (if t190 = true then (caravanlaw17_WatchRuns.l0 k x0 x6 x7 (wrap64 (x8 + 1)) x162000 x162001) else (some false))))
def caravanlaw17_WatchRuns.l1 : Nat → List Int → Int → List Int → Int → Int → List Int → List (List Int) → Option (Bool)
  | 0, _, _, _, _, _, _, _ => none
  | k + 1, x0, x6, x7, x8, x10, x162000, x162001 => if x10 < 5 then (if 0 ≤ x10 then (if x10 < (x7.length : Int) then (caravanlaw17_WatchRuns.l1 k x0 x6 (x7.set (x10 : Int).toNat (wrap64 ((rd x7 x10) + 1))) x8 (wrap64 (x10 + 1)) x162000 x162001) else (none)) else (none)) else (caravanlaw17_WatchRuns.j3 k x0 x6 x7 x8 x162000 x162001)
end
def caravanlaw17_WatchRuns.f (k : Nat) (l0 : List Int) (a1 : Int) : Option (Bool) := if (l0.length : Int) > 100 then ((caravanlaw17_awake.f k).bind fun t154 => (some t154)) else ((watch_New.f 5).bind fun bt155 => (if 5 ≤ 35184372088832 then (caravanlaw17_WatchRuns.l0 k l0 (Int.tmod (wrap64 (a1)) 5) (List.replicate 5 0) 0 bt155.1 bt155.2) else (none)))
theorem caravanlaw17_WatchRuns.mono_l : ∀ k, (∀ y0 y1 y2 y3 y4 y5, LeO (caravanlaw17_WatchRuns.l0 k y0 y1 y2 y3 y4 y5) (caravanlaw17_WatchRuns.l0 (k + 1) y0 y1 y2 y3 y4 y5)) ∧ (∀ y0 y1 y2 y3 y4 y5 y6 y7, LeO (caravanlaw17_WatchRuns.j1 k y0 y1 y2 y3 y4 y5 y6 y7) (caravanlaw17_WatchRuns.j1 (k + 1) y0 y1 y2 y3 y4 y5 y6 y7)) ∧ (∀ y0 y1 y2 y3 y4 y5, LeO (caravanlaw17_WatchRuns.j3 k y0 y1 y2 y3 y4 y5) (caravanlaw17_WatchRuns.j3 (k + 1) y0 y1 y2 y3 y4 y5)) ∧ (∀ y0 y1 y2 y3 y4 y5 y6 y7, LeO (caravanlaw17_WatchRuns.l2 k y0 y1 y2 y3 y4 y5 y6 y7) (caravanlaw17_WatchRuns.l2 (k + 1) y0 y1 y2 y3 y4 y5 y6 y7)) ∧ (∀ y0 y1 y2 y3 y4 y5 y6, LeO (caravanlaw17_WatchRuns.l1 k y0 y1 y2 y3 y4 y5 y6) (caravanlaw17_WatchRuns.l1 (k + 1) y0 y1 y2 y3 y4 y5 y6))
  | 0 => ⟨fun _ _ _ _ _ _ r h => by simp [caravanlaw17_WatchRuns.l0] at h, fun _ _ _ _ _ _ _ _ r h => by simp [caravanlaw17_WatchRuns.j1] at h, fun _ _ _ _ _ _ r h => by simp [caravanlaw17_WatchRuns.j3] at h, fun _ _ _ _ _ _ _ _ r h => by simp [caravanlaw17_WatchRuns.l2] at h, fun _ _ _ _ _ _ _ r h => by simp [caravanlaw17_WatchRuns.l1] at h⟩
  | k + 1 => by
    obtain ⟨ih0, ih1, ih2, ih3, ih4⟩ := caravanlaw17_WatchRuns.mono_l k
    refine ⟨?_, ?_, ?_, ?_, ?_⟩
    · intro y0 y1 y2 y3 y4 y5
      unfold caravanlaw17_WatchRuns.l0
      repeat' first
      | (with_reducible exact ih0 _ _ _ _ _ _)
      | (with_reducible exact ih1 _ _ _ _ _ _ _ _)
      | (with_reducible exact ih2 _ _ _ _ _ _)
      | (with_reducible exact ih3 _ _ _ _ _ _ _ _)
      | (with_reducible exact ih4 _ _ _ _ _ _ _)
      | (with_reducible exact caravanlaw17_awake.mono _)
      | (with_reducible exact caravanref1_Ints.mono _ _ _)
      | (with_reducible exact watch_Suspects.mono _ _ _)
      | (with_reducible exact watch_Tick.mono _ _ _ _)
      | (with_reducible exact LeO.refl _)
      | (with_reducible exact LeO.none _)
      | (with_reducible refine LeO.ite ?_ ?_)
      | (with_reducible refine LeO.bind ?_ (fun _ => ?_))
      | exact ih0 _ _ _ _ _ _
      | exact ih1 _ _ _ _ _ _ _ _
      | exact ih2 _ _ _ _ _ _
      | exact ih3 _ _ _ _ _ _ _ _
      | exact ih4 _ _ _ _ _ _ _
      | exact caravanlaw17_awake.mono _
      | exact caravanref1_Ints.mono _ _ _
      | exact watch_Suspects.mono _ _ _
      | exact watch_Tick.mono _ _ _ _
      | exact LeO.none _
      | refine LeO.ite ?_ ?_
      | refine LeO.bind ?_ (fun _ => ?_)
    · intro y0 y1 y2 y3 y4 y5 y6 y7
      unfold caravanlaw17_WatchRuns.j1
      repeat' first
      | (with_reducible exact ih0 _ _ _ _ _ _)
      | (with_reducible exact ih1 _ _ _ _ _ _ _ _)
      | (with_reducible exact ih2 _ _ _ _ _ _)
      | (with_reducible exact ih3 _ _ _ _ _ _ _ _)
      | (with_reducible exact ih4 _ _ _ _ _ _ _)
      | (with_reducible exact caravanlaw17_awake.mono _)
      | (with_reducible exact caravanref1_Ints.mono _ _ _)
      | (with_reducible exact watch_Suspects.mono _ _ _)
      | (with_reducible exact watch_Tick.mono _ _ _ _)
      | (with_reducible exact LeO.refl _)
      | (with_reducible exact LeO.none _)
      | (with_reducible refine LeO.ite ?_ ?_)
      | (with_reducible refine LeO.bind ?_ (fun _ => ?_))
      | exact ih0 _ _ _ _ _ _
      | exact ih1 _ _ _ _ _ _ _ _
      | exact ih2 _ _ _ _ _ _
      | exact ih3 _ _ _ _ _ _ _ _
      | exact ih4 _ _ _ _ _ _ _
      | exact caravanlaw17_awake.mono _
      | exact caravanref1_Ints.mono _ _ _
      | exact watch_Suspects.mono _ _ _
      | exact watch_Tick.mono _ _ _ _
      | exact LeO.none _
      | refine LeO.ite ?_ ?_
      | refine LeO.bind ?_ (fun _ => ?_)
    · intro y0 y1 y2 y3 y4 y5
      unfold caravanlaw17_WatchRuns.j3
      repeat' first
      | (with_reducible exact ih0 _ _ _ _ _ _)
      | (with_reducible exact ih1 _ _ _ _ _ _ _ _)
      | (with_reducible exact ih2 _ _ _ _ _ _)
      | (with_reducible exact ih3 _ _ _ _ _ _ _ _)
      | (with_reducible exact ih4 _ _ _ _ _ _ _)
      | (with_reducible exact caravanlaw17_awake.mono _)
      | (with_reducible exact caravanref1_Ints.mono _ _ _)
      | (with_reducible exact watch_Suspects.mono _ _ _)
      | (with_reducible exact watch_Tick.mono _ _ _ _)
      | (with_reducible exact LeO.refl _)
      | (with_reducible exact LeO.none _)
      | (with_reducible refine LeO.ite ?_ ?_)
      | (with_reducible refine LeO.bind ?_ (fun _ => ?_))
      | exact ih0 _ _ _ _ _ _
      | exact ih1 _ _ _ _ _ _ _ _
      | exact ih2 _ _ _ _ _ _
      | exact ih3 _ _ _ _ _ _ _ _
      | exact ih4 _ _ _ _ _ _ _
      | exact caravanlaw17_awake.mono _
      | exact caravanref1_Ints.mono _ _ _
      | exact watch_Suspects.mono _ _ _
      | exact watch_Tick.mono _ _ _ _
      | exact LeO.none _
      | refine LeO.ite ?_ ?_
      | refine LeO.bind ?_ (fun _ => ?_)
    · intro y0 y1 y2 y3 y4 y5 y6 y7
      unfold caravanlaw17_WatchRuns.l2
      repeat' first
      | (with_reducible exact ih0 _ _ _ _ _ _)
      | (with_reducible exact ih1 _ _ _ _ _ _ _ _)
      | (with_reducible exact ih2 _ _ _ _ _ _)
      | (with_reducible exact ih3 _ _ _ _ _ _ _ _)
      | (with_reducible exact ih4 _ _ _ _ _ _ _)
      | (with_reducible exact caravanlaw17_awake.mono _)
      | (with_reducible exact caravanref1_Ints.mono _ _ _)
      | (with_reducible exact watch_Suspects.mono _ _ _)
      | (with_reducible exact watch_Tick.mono _ _ _ _)
      | (with_reducible exact LeO.refl _)
      | (with_reducible exact LeO.none _)
      | (with_reducible refine LeO.ite ?_ ?_)
      | (with_reducible refine LeO.bind ?_ (fun _ => ?_))
      | exact ih0 _ _ _ _ _ _
      | exact ih1 _ _ _ _ _ _ _ _
      | exact ih2 _ _ _ _ _ _
      | exact ih3 _ _ _ _ _ _ _ _
      | exact ih4 _ _ _ _ _ _ _
      | exact caravanlaw17_awake.mono _
      | exact caravanref1_Ints.mono _ _ _
      | exact watch_Suspects.mono _ _ _
      | exact watch_Tick.mono _ _ _ _
      | exact LeO.none _
      | refine LeO.ite ?_ ?_
      | refine LeO.bind ?_ (fun _ => ?_)
    · intro y0 y1 y2 y3 y4 y5 y6
      unfold caravanlaw17_WatchRuns.l1
      repeat' first
      | (with_reducible exact ih0 _ _ _ _ _ _)
      | (with_reducible exact ih1 _ _ _ _ _ _ _ _)
      | (with_reducible exact ih2 _ _ _ _ _ _)
      | (with_reducible exact ih3 _ _ _ _ _ _ _ _)
      | (with_reducible exact ih4 _ _ _ _ _ _ _)
      | (with_reducible exact caravanlaw17_awake.mono _)
      | (with_reducible exact caravanref1_Ints.mono _ _ _)
      | (with_reducible exact watch_Suspects.mono _ _ _)
      | (with_reducible exact watch_Tick.mono _ _ _ _)
      | (with_reducible exact LeO.refl _)
      | (with_reducible exact LeO.none _)
      | (with_reducible refine LeO.ite ?_ ?_)
      | (with_reducible refine LeO.bind ?_ (fun _ => ?_))
      | exact ih0 _ _ _ _ _ _
      | exact ih1 _ _ _ _ _ _ _ _
      | exact ih2 _ _ _ _ _ _
      | exact ih3 _ _ _ _ _ _ _ _
      | exact ih4 _ _ _ _ _ _ _
      | exact caravanlaw17_awake.mono _
      | exact caravanref1_Ints.mono _ _ _
      | exact watch_Suspects.mono _ _ _
      | exact watch_Tick.mono _ _ _ _
      | exact LeO.none _
      | refine LeO.ite ?_ ?_
      | refine LeO.bind ?_ (fun _ => ?_)
theorem caravanlaw17_WatchRuns.mono : ∀ a0 a1 k, LeO (caravanlaw17_WatchRuns.f k a0 a1) (caravanlaw17_WatchRuns.f (k + 1) a0 a1) := by
  intro a0 a1 k
  obtain ⟨ih0, ih1, ih2, ih3, ih4⟩ := caravanlaw17_WatchRuns.mono_l k
  unfold caravanlaw17_WatchRuns.f
  repeat' first
      | (with_reducible exact ih0 _ _ _ _ _ _)
      | (with_reducible exact ih1 _ _ _ _ _ _ _ _)
      | (with_reducible exact ih2 _ _ _ _ _ _)
      | (with_reducible exact ih3 _ _ _ _ _ _ _ _)
      | (with_reducible exact ih4 _ _ _ _ _ _ _)
      | (with_reducible exact caravanlaw17_awake.mono _)
      | (with_reducible exact caravanref1_Ints.mono _ _ _)
      | (with_reducible exact watch_Suspects.mono _ _ _)
      | (with_reducible exact watch_Tick.mono _ _ _ _)
      | (with_reducible exact LeO.refl _)
      | (with_reducible exact LeO.none _)
      | (with_reducible refine LeO.ite ?_ ?_)
      | (with_reducible refine LeO.bind ?_ (fun _ => ?_))
      | exact ih0 _ _ _ _ _ _
      | exact ih1 _ _ _ _ _ _ _ _
      | exact ih2 _ _ _ _ _ _
      | exact ih3 _ _ _ _ _ _ _ _
      | exact ih4 _ _ _ _ _ _ _
      | exact caravanlaw17_awake.mono _
      | exact caravanref1_Ints.mono _ _ _
      | exact watch_Suspects.mono _ _ _
      | exact watch_Tick.mono _ _ _ _
      | exact LeO.none _
      | refine LeO.ite ?_ ?_
      | refine LeO.bind ?_ (fun _ => ?_)
set_option maxHeartbeats 8000000 in
set_option maxRecDepth 100000 in
theorem caravanlaw17_WatchRuns.calls (k : Nat) (A0 : Option Addr) (c0 : Nat) (l0 : List Int) (a1 : Int) (r : Bool) (w : World) (hr0 : Kd.C (Kd.int .u8) w A0 l0.length l0) (hc0 : l0.length ≤ c0) (h : caravanlaw17_WatchRuns.f k l0 a1 = some r) :
    Calls Try.prog 3 #[.slice A0 l0.length c0, .int .u8 a1] w fun e w' => e = .returned (.bool r) ∧ Below w.heap.size w w' := by
  have hu27 := Try.underlying27
  have HR0 := Aside0.mk hr0
  have HC0 := Aside0.mk hc0
  clear hr0 hc0
  have HB := Aside0.mk (Below.refl w.heap.size w)
  have H : (if (l0.length : Int) > 100 then ((caravanlaw17_awake.f k).bind fun t154 => (some t154)) else ((watch_New.f 5).bind fun bt155 => (if 5 ≤ 35184372088832 then (caravanlaw17_WatchRuns.l0 k l0 (Int.tmod (wrap64 (a1)) 5) (List.replicate 5 0) 0 bt155.1 bt155.2) else (none)))) = some r := h
  clear h
  by_cases c3 : (l0.length : Int) > 100
  · rw [if_pos c3] at H
    have c3b0 : decide (100 < (l0.length : Int)) = true := decide_eq_true c3
    have c3b1 : decide (100 < l0.length) = true := decide_eq_true (by omega)
    clear c3
    replace H := Option.bind_eq_some_iff.mp H
    obtain ⟨t154, A40, H⟩ := H
    replace H : (some t154) = some r := H
    have A4 := Aside0.mk A40
    clear A40
    obtain rfl := Option.some.inj H
    go_enter Try.func3, Try.ntmps3
    go_wp2_with (first | ((with_reducible refine gate_callee (f := 6) rfl ?_); refine goesL_ (some 16) rfl rfl Try.func6 (by kernel_rfl) rfl #[] rfl (by (try simp only [List.map_toArray, List.map_cons, List.map_nil]); first | done | rfl | (simp only [List.length_drop, List.length_take]; rfl)) ?_; (with_reducible refine (caravanlaw17_awake.calls k  t154 _ A4.out).mono ?_); rintro e w5 ⟨rfl, hb⟩; refine ⟨_, rfl, ?_⟩; have n0_ := Aside0.mk (below_step (by repeat (first | (with_reducible first | exact HB.out | apply below_alloc | apply pw_below_drewN | apply below_drew1) | exact HB.out)) hb); clear HB; have HB := n0_; clear n0_; (try clear hb); (try clear hb2); (try clear hk); (try clear hi)))
    go_ret
    exact ⟨by first | rfl | (simp [errW_none, errW_some] <;> rfl) | (simp [*, errW_none, errW_some] <;> rfl), by repeat (first | (with_reducible first | exact HB.out | apply below_alloc | apply pw_below_drewN | apply below_drew1) | exact HB.out)⟩
  · rw [if_neg c3] at H
    have c3b0 : decide (100 < (l0.length : Int)) = false := decide_eq_false c3
    have c3b1 : decide (100 < l0.length) = false := decide_eq_false (by omega)
    clear c3
    replace H := Option.bind_eq_some_iff.mp H
    obtain ⟨⟨t155, t158⟩, A60, H⟩ := H
    replace H : (if 5 ≤ 35184372088832 then (caravanlaw17_WatchRuns.l0 k l0 (Int.tmod (wrap64 (a1)) 5) (List.replicate 5 0) 0 t155 t158) else (none)) = some r := H
    have A6 := Aside0.mk A60
    clear A60
    by_cases c7 : 5 ≤ 35184372088832
    · rw [if_pos c7] at H
      have c7b0 := eq_true c7
      have c7b1 : decide (5 ≤ 35184372088832) = true := decide_eq_true c7
      clear c7
      obtain ⟨y162, hy162⟩ : ∃ y_ : List Int, y_ = (List.replicate 5 0) := ⟨_, rfl⟩
      replace H : (caravanlaw17_WatchRuns.l0 k l0 (Int.tmod (wrap64 (a1)) 5) y162 0 t155 t158) = some r := by first | (rw [hy162]; with_reducible exact H) | (have H2_ := (Option.bind_some _ _).symm.trans H; rw [hy162]; with_reducible exact H2_) | (have H2_ := (Option.bind_some _ _).symm.trans H; with_reducible exact H2_) | with_reducible exact H | (rw [hy162]; exact H) | exact H
      have Ny162 := Aside0.mk hy162
      clear hy162
      have H' := Aside0.mk H
      clear H
      go_enter Try.func3, Try.ntmps3
      go_wp2_with (first | ((with_reducible refine gate_callee (f := 7) rfl ?_); refine goesL_ (some 17) rfl rfl Try.func7 (by kernel_rfl) rfl #[.int .i64 5] rfl (by (try simp only [List.map_toArray, List.map_cons, List.map_nil]); first | done | rfl | (simp only [List.length_drop, List.length_take]; rfl)) ?_; (with_reducible refine (watch_New.calls 5 t155 t158 _ A6.out).mono ?_); rintro e w8 ⟨v156, v159, rfl, ho0, ho1, hb⟩; refine ⟨_, rfl, ?_⟩; have n0_ := Aside0.mk (Kd.R_lower ho0 (below_size (by repeat (first | (with_reducible first | exact HB.out | apply below_alloc | apply pw_below_drewN | apply below_drew1) | exact HB.out)))); have n1_ := Aside0.mk (Kd.S_lower ho1 (below_size (by repeat (first | (with_reducible first | exact HB.out | apply below_alloc | apply pw_below_drewN | apply below_drew1) | exact HB.out)))); have n2_ := Aside0.mk (below_step (by repeat (first | (with_reducible first | exact HB.out | apply below_alloc | apply pw_below_drewN | apply below_drew1) | exact HB.out)) hb); clear HB; have HO157 := n0_; have HO160 := n1_; have HB := n2_; clear n0_ n1_ n2_; (try clear hb); (try clear hb2); (try clear hk); (try clear hi); (try clear ho0); (try clear ho1)) | ((with_reducible refine gate_dst (N := 5) rfl ?_); refine box_event ?hg (N := 5) ?hd (cs := #[.slice none 0 0, .slice none 0 0]) (t := 27) ?hr ?_; (case hd => rfl); (case hg => rfl); (case hr => first | (go_simp; done) | (go_simp; rfl)); intro gb161 hg w9 hbox hb; have n0_ := Aside0.mk (Kd.R_below (by (with_reducible repeat (first | apply Kd.R_alloc | apply Kd.R_drewN | apply Kd.R_drew)); exact HO157.out) hb); have n1_ := Aside0.mk (Kd.S_below (by (with_reducible repeat (first | apply Kd.S_alloc | apply Kd.S_drewN | apply Kd.S_drew)); exact HO160.out) hb); have n2_ := Aside0.mk (below_step (by repeat (first | (with_reducible first | exact HB.out | apply below_alloc | apply pw_below_drewN | apply below_drew1) | exact HB.out)) hb); have n3_ := Aside0.mk (hbox); have n4_ := Aside0.mk ((by rw [hg]; exact (below_size (by repeat (first | (with_reducible first | exact HB.out | apply below_alloc | apply pw_below_drewN | apply below_drew1) | exact HB.out))) : w.heap.size ≤ gb161)); have n5_ := Aside0.mk ((by rw [hg]; exact (below_size (by repeat (first | (with_reducible first | exact HB.out | apply below_alloc | apply pw_below_drewN | apply below_drew1) | exact HB.out))) : w.heap.size ≤ gb161)); clear HO157; clear HO160; clear HB; have HO157 := n0_; have HO160 := n1_; have HB := n2_; have BK161 := n3_; have GW161 := n4_; have GE161 := n5_; clear n0_ n1_ n2_ n3_ n4_ n5_; clear hb hbox hg; obtain ⟨Ao10, co10, eo10⟩ := Kd.R_slice HO157.out; subst eo10; have hcz11_0 : w9.cell? ⟨gb161, 0, none⟩ = some (.slice none 0 0) := (blk_cell BK161.out 0).trans rfl; have hcz11_1 : w9.cell? ⟨gb161, 1, none⟩ = some (.slice none 0 0) := (blk_cell BK161.out 1).trans rfl; have hfz11_0 := blk_frozen BK161.out 0; have hfz11_1 := blk_frozen BK161.out 1; obtain ⟨Ao12, co12, eo12⟩ := Kd.S_slice HO160.out; subst eo12) | ((with_reducible refine gate_dst (N := 21) rfl ?_); refine Kd.R_make (Kd.int .i64) _ 3 rfl (N := 21) rfl 24 _ _ rfl 5 rfl rfl Try.underlying24 (.int .i64 0) 8 info3 rfl (by decide) (by omega) 0 (ok := fun _ => True) (okp := fun _ => True) rfl (fun _ hk => hk) trivial (by omega) (by omega) (Below.refl _ _) (Nat.le_refl _) ?_; intro v163 w13 ho14 hb hg_ hnew_; clear hg_ hnew_; (first | rw [← Ny162.out] at ho14 | (simp only [Int.reduceToNat] at ho14; rw [← Ny162.out] at ho14)); have n0_ := Aside0.mk (Kd.R_elder' (by (with_reducible repeat (first | apply Kd.R_alloc | apply Kd.R_drewN | apply Kd.R_drew)); exact (Kd.R_mono (Kd.R_far (p := ⟨gb161, 1, none⟩) (Kd.R_far (p := ⟨gb161, 0, none⟩) (Kd.R_types HO157.out BK161.out (by decide)) (fun _ hk => hk.2) (.slice Ao10 t155.length co10)) (fun _ hk => hk.2) (.slice Ao12 t158.length co12)) (fun _ h_ => h_.1))) (Kd.R_base ho14) hb); have n1_ := Aside0.mk (Kd.S_elder' (by (with_reducible repeat (first | apply Kd.S_alloc | apply Kd.S_drewN | apply Kd.S_drew)); exact (Kd.S_mono (Kd.S_far (p := ⟨gb161, 1, none⟩) (Kd.S_far (p := ⟨gb161, 0, none⟩) (Kd.S_types HO160.out BK161.out (by decide)) (fun _ hk => hk.2) (.slice Ao10 t155.length co10)) (fun _ hk => hk.2) (.slice Ao12 t158.length co12)) (fun _ h_ => h_.1))) (Kd.R_base ho14) hb); have n2_ := Aside0.mk (Kd.R_lower (Kd.R_new' ho14 (Kd.R_lt (by (with_reducible repeat (first | apply Kd.R_alloc | apply Kd.R_drewN | apply Kd.R_drew)); exact (Kd.R_mono (Kd.R_far (p := ⟨gb161, 1, none⟩) (Kd.R_far (p := ⟨gb161, 0, none⟩) (Kd.R_types HO157.out BK161.out (by decide)) (fun _ hk => hk.2) (.slice Ao10 t155.length co10)) (fun _ hk => hk.2) (.slice Ao12 t158.length co12)) (fun _ h_ => h_.1))))) (below_size (by repeat (first | (with_reducible first | exact HB.out | apply below_alloc | apply pw_below_drewN | apply below_drew1 | refine below_set ?_ GE161.out) | exact HB.out)))); have n3_ := Aside0.mk (blk_below (g := gb161) (o := .cells #[.slice Ao10 t155.length co10, .slice Ao12 t158.length co12] 27 (0, 0)) (by (with_reducible repeat (first | refine blk_drewN ?_ _ | refine blk_drew ?_ | refine blk_alloc ?_ _)); refine blk_put (cs := #[.slice Ao10 t155.length co10, .slice none 0 0]) ?_ 1 _ rfl; (with_reducible repeat (first | refine blk_drewN ?_ _ | refine blk_drew ?_ | refine blk_alloc ?_ _)); refine blk_put (cs := #[.slice none 0 0, .slice none 0 0]) ?_ 0 _ rfl; (with_reducible repeat (first | refine blk_drewN ?_ _ | refine blk_drew ?_ | refine blk_alloc ?_ _)); exact BK161.out) hb); have n4_ := Aside0.mk (below_step (by repeat (first | (with_reducible first | exact HB.out | apply below_alloc | apply pw_below_drewN | apply below_drew1 | refine below_set ?_ GE161.out) | exact HB.out)) hb); clear HO157; clear HO160; clear BK161; clear HB; have HO157 := n0_; have HO160 := n1_; have HO164 := n2_; have BK161 := n3_; have HB := n4_; clear n0_ n1_ n2_ n3_ n4_; clear hb ho14))
      go_loopg [8] k (fun kq v8 w' => ∃ (x7_1 : List Int) (x8_1 : Int) (x162000_1 : List Int) (x162001_1 : List (List Int)) (u162000 : Value) (u162001 : Value), v8 = .int .i64 x8_1 ∧ Aside0 (caravanlaw17_WatchRuns.l0 kq l0 (Int.tmod (wrap64 (a1)) 5) x7_1 x8_1 x162000_1 x162001_1 = some r) ∧ Aside0 (kq ≤ k) ∧ Aside0 (Kd.R (Kd.int .i64) 3 w' w.heap.size (fun k_ => some k_ ≠ (u162000 : Value).ownBlock) v163 x7_1) ∧ Aside0 (Kd.R (Kd.int .i64) 3 w' w.heap.size (fun k_ => some k_ ≠ (v163 : Value).ownBlock) u162000 x162000_1) ∧ Aside0 (Kd.S (Kd.slice 3 (Kd.int .i64)) 24 w' w.heap.size (fun k_ => some k_ ≠ (v163 : Value).ownBlock ∧ some k_ ≠ (u162000 : Value).ownBlock) u162001 x162001_1) ∧ Aside0 (w'.heap[gb161]? = some (.cells #[u162000, u162001] 27 (0, 0))) ∧ Aside0 (Below w.heap.size w w'))
      case atStart => exact ⟨(y162), (0), (t155), (t158), (.slice Ao10 t155.length co10), (.slice Ao12 t158.length co12), (by first | rfl | (simp; done) | (simp [*]; done)), H', ⟨Nat.le_refl _⟩, ⟨by (with_reducible repeat (first | apply Kd.R_alloc | apply Kd.R_drewN | apply Kd.R_drew)); exact Kd.R_mono HO164.out (fun _ hk => hk.2)⟩, ⟨by (with_reducible repeat (first | apply Kd.R_alloc | apply Kd.R_drewN | apply Kd.R_drew)); exact Kd.R_mono HO157.out (fun _ hk => hk.2)⟩, ⟨by (with_reducible repeat (first | apply Kd.S_alloc | apply Kd.S_drewN | apply Kd.S_drew)); exact Kd.S_mono HO160.out (fun _ hk => ⟨hk.2, hk.1⟩)⟩, ⟨by (with_reducible repeat (first | refine blk_drewN ?_ _ | refine blk_drew ?_ | refine blk_alloc ?_ _)); exact BK161.out⟩, ⟨by repeat (first | (with_reducible first | exact HB.out | apply below_alloc | apply pw_below_drewN | apply below_drew1 | refine below_set ?_ GE161.out) | exact HB.out)⟩⟩
      case round =>
        clear H'
        try clear p2
        try clear c3
        try clear c3b0
        try clear c3b1
        try clear c6
        try clear p6
        try clear c7
        try clear c7b0
        try clear c7b1
        try clear hcz11_0
        try clear hcz11_1
        try clear hfz11_0
        try clear hfz11_1
        obtain ⟨x7_1, x8_1, x162000_1, x162001_1, u162000, u162001, rfl, HA, HK1, HO_7, HO_162000, HO_162001, BK161, HB⟩ := hrel
        cases gk with
        | zero => exact absurd HA.out (by simp [caravanlaw17_WatchRuns.l0])
        | succ k1 =>
          have H := HA.out
          clear HA
          simp only [caravanlaw17_WatchRuns.l0] at H
          by_cases c15 : x8_1 < (l0.length : Int)
          · rw [if_pos c15] at H
            have c15b0 : decide (x8_1 < (l0.length : Int)) = true := decide_eq_true c15
            clear c15
            by_cases c16 : 0 ≤ x8_1
            · rw [if_pos c16] at H
              have c16b0 : decide (0 ≤ x8_1) = true := decide_eq_true c16
              clear c16
              have HC17 := Aside0.mk H
              clear H
              have p166 : 0 ≤ (x8_1 : Int) := of_decide_eq_true (by first | (with_reducible assumption) | assumption)
              have q166 : x8_1 < (l0.length : Int) := of_decide_eq_true (by first | (with_reducible assumption) | assumption)
              obtain ⟨ad166, e166, hx166_0⟩ := Kd.at_int HR0.out x8_1 p166 q166
              cases e166
              replace hx166_0 := (HB.out.cell (World.block_lt_of_cell? w _ hx166_0)).trans hx166_0
              replace p166 := eq_true p166
              replace q166 := eq_true q166
              go_upto_region 10 with (fail)
              go_cut [40] (fun v40 wc => ∃ (kq : Nat) (x40_16 : Bool), v40 = .bool x40_16 ∧ Aside0 (caravanlaw17_WatchRuns.j1 kq l0 (Int.tmod (wrap64 (a1)) 5) x7_1 x8_1 (Int.tmod (wrap64 (rd l0 x8_1)) 8) x40_16 x162000_1 x162001_1 = some r) ∧ Aside0 (kq ≤ k1) ∧ Aside0 (Kd.R (Kd.int .i64) 3 wc w.heap.size (fun k_ => some k_ ≠ (u162000 : Value).ownBlock) v163 x7_1) ∧ Aside0 (Kd.R (Kd.int .i64) 3 wc w.heap.size (fun k_ => some k_ ≠ (v163 : Value).ownBlock) u162000 x162000_1) ∧ Aside0 (Kd.S (Kd.slice 3 (Kd.int .i64)) 24 wc w.heap.size (fun k_ => some k_ ≠ (v163 : Value).ownBlock ∧ some k_ ≠ (u162000 : Value).ownBlock) u162001 x162001_1) ∧ Aside0 (wc.heap[gb161]? = some (.cells #[u162000, u162001] 27 (0, 0))) ∧ Aside0 (Below w.heap.size w wc))
              case first =>
                have H := HC17.out
                clear HC17
                by_cases c18 : (Int.tmod (wrap64 (rd l0 x8_1)) 8) < 5
                · rw [if_pos c18] at H
                  have c18b0 : decide ((Int.tmod (wrap64 (rd l0 x8_1)) 8) < 5) = true := decide_eq_true c18
                  clear c18
                  (first | rw [c18b0] | (simp only [i64_w, i32_w]; rw [c18b0]) | skip)
                  have H' := Aside0.mk H
                  clear H
                  go_wp2
                  go_meet
                  case rel => exact ⟨_, (((Int.tmod (wrap64 (rd l0 x8_1)) 8) != (Int.tmod (wrap64 (a1)) 5))), (by first | rfl | (simp; done) | (simp [*]; done)), H', ⟨by have := HK1.out; first | omega | exact Nat.le_refl _⟩, ⟨by (with_reducible repeat (first | apply Kd.R_alloc | apply Kd.R_drewN | apply Kd.R_drew)); exact HO_7.out⟩, ⟨by (with_reducible repeat (first | apply Kd.R_alloc | apply Kd.R_drewN | apply Kd.R_drew)); exact HO_162000.out⟩, ⟨by (with_reducible repeat (first | apply Kd.S_alloc | apply Kd.S_drewN | apply Kd.S_drew)); exact HO_162001.out⟩, ⟨by (with_reducible repeat (first | refine blk_drewN ?_ _ | refine blk_drew ?_ | refine blk_alloc ?_ _)); exact BK161.out⟩, ⟨by repeat (first | (with_reducible first | exact HB.out | apply below_alloc | apply pw_below_drewN | apply below_drew1 | refine below_set ?_ GE161.out) | exact HB.out)⟩⟩
                · rw [if_neg c18] at H
                  have c18b0 : decide ((Int.tmod (wrap64 (rd l0 x8_1)) 8) < 5) = false := decide_eq_false c18
                  clear c18
                  (first | rw [c18b0] | (simp only [i64_w, i32_w]; rw [c18b0]) | skip)
                  have H' := Aside0.mk H
                  clear H
                  go_wp2
                  go_meet
                  case rel => exact ⟨_, (false), (by first | rfl | (simp; done) | (simp [*]; done)), H', ⟨by have := HK1.out; first | omega | exact Nat.le_refl _⟩, ⟨by (with_reducible repeat (first | apply Kd.R_alloc | apply Kd.R_drewN | apply Kd.R_drew)); exact HO_7.out⟩, ⟨by (with_reducible repeat (first | apply Kd.R_alloc | apply Kd.R_drewN | apply Kd.R_drew)); exact HO_162000.out⟩, ⟨by (with_reducible repeat (first | apply Kd.S_alloc | apply Kd.S_drewN | apply Kd.S_drew)); exact HO_162001.out⟩, ⟨by (with_reducible repeat (first | refine blk_drewN ?_ _ | refine blk_drew ?_ | refine blk_alloc ?_ _)); exact BK161.out⟩, ⟨by repeat (first | (with_reducible first | exact HB.out | apply below_alloc | apply pw_below_drewN | apply below_drew1 | refine below_set ?_ GE161.out) | exact HB.out)⟩⟩
              case rest =>
                clear HC17
                try clear c1
                try clear p1
                try clear q1
                try clear hx1
                try clear p2
                try clear c3
                try clear c3b0
                try clear c3b1
                try clear c6
                try clear p6
                try clear c7
                try clear c7b0
                try clear c7b1
                try clear c15
                try clear c15b0
                try clear c16
                try clear c16b0
                try clear p16
                try clear q16
                try clear hx16
                try clear c18
                try clear c18b0
                try clear hcz11_0
                try clear hcz11_1
                try clear hfz11_0
                try clear hfz11_1
                try clear hx166_0
                try clear p166
                try clear p2
                try clear p6
                try clear q166
                obtain ⟨kq, x40_16, rfl, HA, HJ16, HO_7, HO_162000, HO_162001, BK161, HB⟩ := hcut
                cases kq with
                | zero => exact absurd HA.out (by simp [caravanlaw17_WatchRuns.j1])
                | succ kj16 =>
                  have H := HA.out
                  clear HA
                  simp only [caravanlaw17_WatchRuns.j1] at H
                  have HC19 := Aside0.mk H
                  clear H
                  go_upto_if 40 with (fail)
                  go_cut [] (fun wc => ∃ (kq : Nat) (x7_18 : List Int) (x162000_18 : List Int) (x162001_18 : List (List Int)) (u162000 : Value) (u162001 : Value), Aside0 (caravanlaw17_WatchRuns.j3 kq l0 (Int.tmod (wrap64 (a1)) 5) x7_18 x8_1 x162000_18 x162001_18 = some r) ∧ Aside0 (kq ≤ kj16) ∧ Aside0 (Kd.R (Kd.int .i64) 3 wc w.heap.size (fun k_ => some k_ ≠ (u162000 : Value).ownBlock) v163 x7_18) ∧ Aside0 (Kd.R (Kd.int .i64) 3 wc w.heap.size (fun k_ => some k_ ≠ (v163 : Value).ownBlock) u162000 x162000_18) ∧ Aside0 (Kd.S (Kd.slice 3 (Kd.int .i64)) 24 wc w.heap.size (fun k_ => some k_ ≠ (v163 : Value).ownBlock ∧ some k_ ≠ (u162000 : Value).ownBlock) u162001 x162001_18) ∧ Aside0 (wc.heap[gb161]? = some (.cells #[u162000, u162001] 27 (0, 0))) ∧ Aside0 (Below w.heap.size w wc))
                  case first =>
                    have H := HC19.out
                    clear HC19
                    by_cases c20 : x40_16 = true
                    · subst c20
                      have H1 : ((watch_Heard.f x162000_1 x162001_1 (Int.tmod (wrap64 (rd l0 x8_1)) 8) ([] : List Int)).bind fun bt167 => (if 0 ≤ (Int.tmod (wrap64 (rd l0 x8_1)) 8) then (if (Int.tmod (wrap64 (rd l0 x8_1)) 8) < (x7_1.length : Int) then (caravanlaw17_WatchRuns.j3 kj16 l0 (Int.tmod (wrap64 (a1)) 5) (x7_1.set ((Int.tmod (wrap64 (rd l0 x8_1)) 8) : Int).toNat 0) x8_1 bt167.1 bt167.2) else (none)) else (none))) = some r := by rw [if_pos rfl] at H; exact H
                      clear H
                      have H := H1
                      clear H1
                      replace H := Option.bind_eq_some_iff.mp H
                      obtain ⟨⟨t167, t170⟩, A210, H⟩ := H
                      replace H : (if 0 ≤ (Int.tmod (wrap64 (rd l0 x8_1)) 8) then (if (Int.tmod (wrap64 (rd l0 x8_1)) 8) < (x7_1.length : Int) then (caravanlaw17_WatchRuns.j3 kj16 l0 (Int.tmod (wrap64 (a1)) 5) (x7_1.set ((Int.tmod (wrap64 (rd l0 x8_1)) 8) : Int).toNat 0) x8_1 t167 t170) else (none)) else (none)) = some r := H
                      have A21 := Aside0.mk A210
                      clear A210
                      obtain ⟨ji22, hji22⟩ : ∃ j_ : Int, (Int.tmod (wrap64 (rd l0 x8_1)) 8) = j_ := ⟨_, rfl⟩
                      replace H : (if 0 ≤ (ji22) then (if (ji22) < (x7_1.length : Int) then (caravanlaw17_WatchRuns.j3 kj16 l0 (Int.tmod (wrap64 (a1)) 5) (x7_1.set ((ji22) : Int).toNat 0) x8_1 t167 t170) else (none)) else (none)) = some r := by first | (rw [hji22] at H; exact H) | (simp only [hji22] at H ⊢; exact H)
                      (try simp only [hji22] at *)
                      (try rw [hji22] at A21)
                      by_cases c23 : 0 ≤ (ji22)
                      · rw [if_pos c23] at H
                        have c23b0 : decide (0 ≤ (ji22)) = true := decide_eq_true c23
                        clear c23
                        (first | rw [c23b0] | (simp only [i64_w, i32_w]; rw [c23b0]) | skip)
                        by_cases c24 : (ji22) < (x7_1.length : Int)
                        · rw [if_pos c24] at H
                          have c24b0 : decide ((ji22) < (x7_1.length : Int)) = true := decide_eq_true c24
                          clear c24
                          obtain ⟨y173, hy173⟩ : ∃ y_ : List Int, y_ = (x7_1.set ((ji22) : Int).toNat 0) := ⟨_, rfl⟩
                          replace H : (caravanlaw17_WatchRuns.j3 kj16 l0 (Int.tmod (wrap64 (a1)) 5) y173 x8_1 t167 t170) = some r := by first | (rw [hy173]; with_reducible exact H) | (have H2_ := (Option.bind_some _ _).symm.trans H; rw [hy173]; with_reducible exact H2_) | (have H2_ := (Option.bind_some _ _).symm.trans H; with_reducible exact H2_) | with_reducible exact H | (rw [hy173]; exact H) | exact H
                          have Ny173 := Aside0.mk hy173
                          clear hy173
                          have H' := Aside0.mk H
                          clear H
                          have hcz26_0 : wc.cell? ⟨gb161, 0, none⟩ = some (u162000) := (blk_cell BK161.out 0).trans rfl
                          have hcz26_1 : wc.cell? ⟨gb161, 1, none⟩ = some (u162001) := (blk_cell BK161.out 1).trans rfl
                          have hfz26_0 := blk_frozen BK161.out 0
                          have hfz26_1 := blk_frozen BK161.out 1
                          obtain ⟨Ao27, co27, eo27⟩ := Kd.R_slice HO_162000.out
                          subst eo27
                          obtain ⟨Ao28, co28, eo28⟩ := Kd.S_slice HO_162001.out
                          subst eo28
                          go_wp2_with (first | ((with_reducible refine gate_callee (f := 8) rfl ?_); refine goesL_ (some 43) rfl rfl Try.func8 (by kernel_rfl) rfl #[.agg #[.slice Ao27 x162000_1.length co27, .slice Ao28 x162001_1.length co28], .int .i64 (ji22), .slice none 0 0] rfl (by (try simp only [List.map_toArray, List.map_cons, List.map_nil]); first | done | (simp only [hji22]; rfl) | rfl | (simp only [List.length_drop, List.length_take]; rfl)) ?_; (refine (watch_Heard.calls _ _ x162000_1 _ _ x162001_1 (ji22) _ _ ([] : List Int) t167 t170 _ ?side1 ?side2 ?side3 ?side4 ?side5 ?side6 A21.out).mono ?_); (case side1 => repeat (first | exact (Kd.R_reads' HO_162000.out).2.2 | (with_reducible refine Kd.C_alloc ?_ _) | (with_reducible refine Kd.C_drewN ?_ _) | (with_reducible refine Kd.C_drew ?_))); (case side2 => exact (Kd.R_reads' HO_162000.out).2.1); (case side3 => repeat (first | exact (Kd.S_reads' HO_162001.out).2.2 | (with_reducible refine Kd.C_alloc ?_ _) | (with_reducible refine Kd.C_drewN ?_ _) | (with_reducible refine Kd.C_drew ?_))); (case side4 => exact (Kd.S_reads' HO_162001.out).2.1); (case side5 => exact Kd.C_nil _ _); (case side6 => exact Nat.le_refl _); rintro e w29 ⟨v168, v171, rfl, ho0, ho1, hb⟩; refine ⟨_, rfl, ?_⟩; have n0_ := Aside0.mk (Kd.R_elder' (by (with_reducible repeat (first | apply Kd.R_alloc | apply Kd.R_drewN | apply Kd.R_drew)); exact HO_7.out) (Kd.R_base ho0) hb); have n1_ := Aside0.mk (Kd.R_elder' (by (with_reducible repeat (first | apply Kd.R_alloc | apply Kd.R_drewN | apply Kd.R_drew)); exact HO_162000.out) (Kd.R_base ho0) hb); have n2_ := Aside0.mk (Kd.S_mono (Kd.S_told (Kd.S_told (Kd.S_old (by (with_reducible repeat (first | apply Kd.S_alloc | apply Kd.S_drewN | apply Kd.S_drew)); exact HO_162001.out) hb) (Kd.R_base ho0)) (Kd.S_base ho1)) (fun _ h_ => h_.1)); have n3_ := Aside0.mk (Kd.R_lower (Kd.R_new' (Kd.R_new' ho0 (Kd.R_lt (by (with_reducible repeat (first | apply Kd.R_alloc | apply Kd.R_drewN | apply Kd.R_drew)); exact HO_7.out))) (Kd.R_lt (by (with_reducible repeat (first | apply Kd.R_alloc | apply Kd.R_drewN | apply Kd.R_drew)); exact HO_162000.out))) (below_size (by repeat (first | (with_reducible first | exact HB.out | apply below_alloc | apply pw_below_drewN | apply below_drew1 | refine below_set ?_ GE161.out) | exact HB.out)))); have n4_ := Aside0.mk (Kd.S_lower (Kd.S_new' (Kd.S_new' (Kd.S_new' ho1 (Kd.R_lt (by (with_reducible repeat (first | apply Kd.R_alloc | apply Kd.R_drewN | apply Kd.R_drew)); exact HO_7.out))) (Kd.R_lt (by (with_reducible repeat (first | apply Kd.R_alloc | apply Kd.R_drewN | apply Kd.R_drew)); exact HO_162000.out))) (Kd.S_lt (by (with_reducible repeat (first | apply Kd.S_alloc | apply Kd.S_drewN | apply Kd.S_drew)); exact HO_162001.out))) (below_size (by repeat (first | (with_reducible first | exact HB.out | apply below_alloc | apply pw_below_drewN | apply below_drew1 | refine below_set ?_ GE161.out) | exact HB.out)))); have n5_ := Aside0.mk (blk_below (g := gb161) (o := .cells #[.slice Ao27 x162000_1.length co27, .slice Ao28 x162001_1.length co28] 27 (0, 0)) (by (with_reducible repeat (first | refine blk_drewN ?_ _ | refine blk_drew ?_ | refine blk_alloc ?_ _)); exact BK161.out) hb); have n6_ := Aside0.mk (below_step (by repeat (first | (with_reducible first | exact HB.out | apply below_alloc | apply pw_below_drewN | apply below_drew1 | refine below_set ?_ GE161.out) | exact HB.out)) hb); clear HO_7; clear HO_162000; clear HO_162001; clear BK161; clear HB; have HO_7 := n0_; have HO_162000 := n1_; have HO_162001 := n2_; have HO169 := n3_; have HO172 := n4_; have BK161 := n5_; have HB := n6_; clear n0_ n1_ n2_ n3_ n4_ n5_ n6_; (try clear hb); (try clear hb2); (try clear hk); (try clear hi); (try clear ho0); (try clear ho1); obtain ⟨Ao30, co30, eo30⟩ := Kd.R_slice HO169.out; subst eo30; have hcz31_0 : w29.cell? ⟨gb161, 0, none⟩ = some (.slice Ao27 x162000_1.length co27) := (blk_cell BK161.out 0).trans rfl; have hcz31_1 : w29.cell? ⟨gb161, 1, none⟩ = some (.slice Ao28 x162001_1.length co28) := (blk_cell BK161.out 1).trans rfl; have hfz31_0 := blk_frozen BK161.out 0; have hfz31_1 := blk_frozen BK161.out 1; obtain ⟨Ao32, co32, eo32⟩ := Kd.S_slice HO172.out; subst eo32) | ((with_reducible refine gate_store (t := 27) (p := 5) rfl ?_); refine store_event (t := 27) (p := 5) (v := ?vo_w33) (w1 := ((w29.setCell ⟨gb161, 0, none⟩ (.slice Ao30 t167.length co30)).setCell ⟨gb161, 1, none⟩ (.slice Ao32 t170.length co32))) ?hg ?ho ?hn ?hr ?_; (case ho => rfl); (case hg => rfl); (case hn => rfl); (case hr => first | (go_simp; done) | (go_simp; rfl)); intro w33 hw; have n0_ : Aside0 (Kd.R (Kd.int .i64) 3 w33 w.heap.size (fun k_ => some k_ ≠ (.slice Ao27 x162000_1.length co27 : Value).ownBlock ∧ some k_ ≠ (.slice Ao30 t167.length co30 : Value).ownBlock) v163 x7_1) := ⟨(by rw [hw]; exact (by (with_reducible repeat (first | apply Kd.R_alloc | apply Kd.R_drewN | apply Kd.R_drew)); exact Kd.R_mono (Kd.R_far (p := ⟨gb161, 1, none⟩) (Kd.R_far (p := ⟨gb161, 0, none⟩) (Kd.R_types HO_7.out BK161.out (by decide)) (fun _ hk => hk.2) (.slice Ao30 t167.length co30)) (fun _ hk => hk.2) (.slice Ao32 t170.length co32)) (fun _ hk => ⟨hk.1.1, hk.1.2⟩)))⟩; have n1_ : Aside0 (Kd.R (Kd.int .i64) 3 w33 w.heap.size (fun k_ => some k_ ≠ (v163 : Value).ownBlock ∧ some k_ ≠ (.slice Ao30 t167.length co30 : Value).ownBlock) (.slice Ao27 x162000_1.length co27) x162000_1) := ⟨(by rw [hw]; exact (by (with_reducible repeat (first | apply Kd.R_alloc | apply Kd.R_drewN | apply Kd.R_drew)); exact Kd.R_mono (Kd.R_far (p := ⟨gb161, 1, none⟩) (Kd.R_far (p := ⟨gb161, 0, none⟩) (Kd.R_types HO_162000.out BK161.out (by decide)) (fun _ hk => hk.2) (.slice Ao30 t167.length co30)) (fun _ hk => hk.2) (.slice Ao32 t170.length co32)) (fun _ hk => ⟨hk.1.1, hk.1.2⟩)))⟩; have n2_ : Aside0 (Kd.S (Kd.slice 3 (Kd.int .i64)) 24 w33 w.heap.size (fun k_ => some k_ ≠ (v163 : Value).ownBlock ∧ some k_ ≠ (.slice Ao27 x162000_1.length co27 : Value).ownBlock ∧ some k_ ≠ (.slice Ao30 t167.length co30 : Value).ownBlock ∧ some k_ ≠ (.slice Ao32 t170.length co32 : Value).ownBlock) (.slice Ao28 x162001_1.length co28) x162001_1) := ⟨(by rw [hw]; exact (by (with_reducible repeat (first | apply Kd.S_alloc | apply Kd.S_drewN | apply Kd.S_drew)); exact Kd.S_mono (Kd.S_far (p := ⟨gb161, 1, none⟩) (Kd.S_far (p := ⟨gb161, 0, none⟩) (Kd.S_types HO_162001.out BK161.out (by decide)) (fun _ hk => hk.2) (.slice Ao30 t167.length co30)) (fun _ hk => hk.2) (.slice Ao32 t170.length co32)) (fun _ hk => ⟨hk.1.1.1.1, ⟨hk.1.1.1.2, ⟨hk.1.1.2, hk.1.2⟩⟩⟩)))⟩; have n3_ : Aside0 (Kd.R (Kd.int .i64) 3 w33 w.heap.size (fun k_ => some k_ ≠ (v163 : Value).ownBlock ∧ some k_ ≠ (.slice Ao27 x162000_1.length co27 : Value).ownBlock) (.slice Ao30 t167.length co30) t167) := ⟨(by rw [hw]; exact (by (with_reducible repeat (first | apply Kd.R_alloc | apply Kd.R_drewN | apply Kd.R_drew)); exact Kd.R_mono (Kd.R_far (p := ⟨gb161, 1, none⟩) (Kd.R_far (p := ⟨gb161, 0, none⟩) (Kd.R_types HO169.out BK161.out (by decide)) (fun _ hk => hk.2) (.slice Ao30 t167.length co30)) (fun _ hk => hk.2) (.slice Ao32 t170.length co32)) (fun _ hk => ⟨hk.1.1.2, hk.1.2⟩)))⟩; have n4_ : Aside0 (Kd.S (Kd.slice 3 (Kd.int .i64)) 24 w33 w.heap.size (fun k_ => some k_ ≠ (v163 : Value).ownBlock ∧ some k_ ≠ (.slice Ao27 x162000_1.length co27 : Value).ownBlock ∧ some k_ ≠ (.slice Ao28 x162001_1.length co28 : Value).ownBlock ∧ some k_ ≠ (.slice Ao30 t167.length co30 : Value).ownBlock) (.slice Ao32 t170.length co32) t170) := ⟨(by rw [hw]; exact (by (with_reducible repeat (first | apply Kd.S_alloc | apply Kd.S_drewN | apply Kd.S_drew)); exact Kd.S_mono (Kd.S_far (p := ⟨gb161, 1, none⟩) (Kd.S_far (p := ⟨gb161, 0, none⟩) (Kd.S_types HO172.out BK161.out (by decide)) (fun _ hk => hk.2) (.slice Ao30 t167.length co30)) (fun _ hk => hk.2) (.slice Ao32 t170.length co32)) (fun _ hk => ⟨hk.1.1.1.2, ⟨hk.1.1.2, ⟨hk.1.2, hk.1.1.1.1⟩⟩⟩)))⟩; have n5_ : Aside0 (w33.heap[gb161]? = some (.cells #[.slice Ao30 t167.length co30, .slice Ao32 t170.length co32] 27 (0, 0))) := ⟨(by rw [hw]; exact (by (with_reducible repeat (first | refine blk_drewN ?_ _ | refine blk_drew ?_ | refine blk_alloc ?_ _)); refine blk_put (cs := #[.slice Ao30 t167.length co30, .slice Ao28 x162001_1.length co28]) ?_ 1 _ rfl; (with_reducible repeat (first | refine blk_drewN ?_ _ | refine blk_drew ?_ | refine blk_alloc ?_ _)); refine blk_put (cs := #[.slice Ao27 x162000_1.length co27, .slice Ao28 x162001_1.length co28]) ?_ 0 _ rfl; (with_reducible repeat (first | refine blk_drewN ?_ _ | refine blk_drew ?_ | refine blk_alloc ?_ _)); exact BK161.out))⟩; have n6_ : Aside0 (Below w.heap.size w w33) := ⟨(by rw [hw]; exact (by repeat (first | (with_reducible first | exact HB.out | apply below_alloc | apply pw_below_drewN | apply below_drew1 | refine below_set ?_ GE161.out) | exact HB.out)))⟩; clear hw; clear HO_7; clear HO_162000; clear HO_162001; clear HO169; clear HO172; clear BK161; clear HB; have HO_7 := n0_; have HO_162000 := n1_; have HO_162001 := n2_; have HO169 := n3_; have HO172 := n4_; have BK161 := n5_; have HB := n6_; clear n0_ n1_ n2_ n3_ n4_ n5_ n6_; have p25 : 0 ≤ ((ji22) : Int) := of_decide_eq_true (by first | (with_reducible assumption) | assumption); have q25 : ((ji22) : Int) < ((x7_1.length : Int) : Int) := of_decide_eq_true (by first | (with_reducible assumption) | assumption); obtain ⟨go25, co25, eo25, gb25, gl25, cl25, HG25⟩ := Kd.R_form HO_7.out (by omega); (first | cases eo25 | (injection eo25 with ea_ en_ ec_; (first | subst ea_ | (injection ea_ with ea_; subst ea_)); subst ec_; clear en_)); have GB25 := Aside0.mk gb25; have GG25 := Aside0.mk HG25; clear gb25 gl25 HG25; obtain ⟨hx25_0, hf25_0⟩ := Kd.R_celln 0 HO_7.out ((ji22) : Int) p25 q25; replace p25 := eq_true p25; replace q25 := eq_true q25; obtain ⟨hy34_, hz34_⟩ := Kd.R_celln 0 HO_7.out ((ji22) : Int) (of_decide_eq_true (by first | (with_reducible assumption) | assumption)) (of_decide_eq_true (by first | (with_reducible assumption) | assumption)); have HP34 := Kd.R_putg HO_7.out ((ji22) : Int) 0) | ((with_reducible refine gate_store (t := 3) (p := 46) rfl ?_); refine store_event (t := 3) (p := 46) (v := ?vo_w35) (w1 := (w33.setCell ⟨go25, ((ji22) : Int).toNat, none⟩ (.int .i64 0))) ?hg ?ho ?hn ?hr ?_; (case ho => rfl); (case hg => rfl); (case hn => rfl); (case hr => first | (go_simp; done) | (go_simp; rfl)); intro w35 hw; have hg : w33.grownBy w35 (some go25) := (by rw [hw]; exact HP34.2); have hp_ : Kd.R (Kd.int .i64) 3 w35 w.heap.size (fun k_ => some k_ ≠ (.slice Ao27 x162000_1.length co27 : Value).ownBlock ∧ some k_ ≠ (.slice Ao30 t167.length co30 : Value).ownBlock) (.slice (some ⟨go25, 0, none⟩) x7_1.length co25) y173 := (by rw [hw, Ny173.out]; exact HP34.1); clear HP34; have n0_ := Aside0.mk (hp_); have n1_ := Aside0.mk (Kd.R_after (v := (.slice (some ⟨go25, 0, none⟩) x7_1.length co25)) (v1 := (.slice (some ⟨go25, 0, none⟩) x7_1.length co25)) (ok := (fun k_ => some k_ ≠ (.slice Ao30 t167.length co30 : Value).ownBlock)) (by (with_reducible repeat (first | apply Kd.R_alloc | apply Kd.R_drewN | apply Kd.R_drew)); exact Kd.R_mono HO_162000.out (fun _ hk => ⟨hk.2, hk.1⟩)) hg (.inl rfl)); have n2_ := Aside0.mk (Kd.S_after (v := (.slice (some ⟨go25, 0, none⟩) x7_1.length co25)) (v1 := (.slice (some ⟨go25, 0, none⟩) x7_1.length co25)) (ok := (fun k_ => some k_ ≠ (.slice Ao27 x162000_1.length co27 : Value).ownBlock ∧ some k_ ≠ (.slice Ao30 t167.length co30 : Value).ownBlock ∧ some k_ ≠ (.slice Ao32 t170.length co32 : Value).ownBlock)) (by (with_reducible repeat (first | apply Kd.S_alloc | apply Kd.S_drewN | apply Kd.S_drew)); exact Kd.S_mono HO_162001.out (fun _ hk => ⟨⟨hk.2.1, ⟨hk.2.2.1, hk.2.2.2⟩⟩, hk.1⟩)) hg (.inl rfl)); have n3_ := Aside0.mk (blk_grown (g := gb161) (o := .cells #[.slice Ao30 t167.length co30, .slice Ao32 t170.length co32] 27 (0, 0)) (by (with_reducible repeat (first | refine blk_drewN ?_ _ | refine blk_drew ?_ | refine blk_alloc ?_ _)); exact BK161.out) hg (Kd.R_ne HO_7.out BK161.out (by decide))); have n4_ := Aside0.mk (Kd.R_after (v := (.slice (some ⟨go25, 0, none⟩) x7_1.length co25)) (v1 := (.slice (some ⟨go25, 0, none⟩) x7_1.length co25)) (ok := (fun k_ => some k_ ≠ (.slice Ao27 x162000_1.length co27 : Value).ownBlock)) (by (with_reducible repeat (first | apply Kd.R_alloc | apply Kd.R_drewN | apply Kd.R_drew)); exact Kd.R_mono HO169.out (fun _ hk => ⟨hk.2, hk.1⟩)) hg (.inl rfl)); have n5_ := Aside0.mk (Kd.S_after (v := (.slice (some ⟨go25, 0, none⟩) x7_1.length co25)) (v1 := (.slice (some ⟨go25, 0, none⟩) x7_1.length co25)) (ok := (fun k_ => some k_ ≠ (.slice Ao27 x162000_1.length co27 : Value).ownBlock ∧ some k_ ≠ (.slice Ao28 x162001_1.length co28 : Value).ownBlock ∧ some k_ ≠ (.slice Ao30 t167.length co30 : Value).ownBlock)) (by (with_reducible repeat (first | apply Kd.S_alloc | apply Kd.S_drewN | apply Kd.S_drew)); exact Kd.S_mono HO172.out (fun _ hk => ⟨⟨hk.2.1, ⟨hk.2.2.1, hk.2.2.2⟩⟩, hk.1⟩)) hg (.inl rfl)); have n6_ := Aside0.mk ((by rw [hw]; exact below_set (HB.out) GB25.out : Below w.heap.size w w35)); clear HO_7; clear HO_162000; clear HO_162001; clear BK161; clear HO169; clear HO172; clear HB; have HO_7 := n0_; have HO_162000 := n1_; have HO_162001 := n2_; have BK161 := n3_; have HO169 := n4_; have HO172 := n5_; have HB := n6_; clear n0_ n1_ n2_ n3_ n4_ n5_ n6_; clear hg hw hp_))
                          go_meet
                          case rel => exact ⟨_, (y173), (t167), (t170), (.slice Ao30 t167.length co30), (.slice Ao32 t170.length co32), H', ⟨by have := HK1.out; have := HJ16.out; first | omega | exact Nat.le_refl _⟩, ⟨by (with_reducible repeat (first | apply Kd.R_alloc | apply Kd.R_drewN | apply Kd.R_drew)); exact Kd.R_mono HO_7.out (fun _ hk => hk.2)⟩, ⟨by (with_reducible repeat (first | apply Kd.R_alloc | apply Kd.R_drewN | apply Kd.R_drew)); exact Kd.R_mono HO169.out (fun _ hk => hk.2)⟩, ⟨by (with_reducible repeat (first | apply Kd.S_alloc | apply Kd.S_drewN | apply Kd.S_drew)); exact Kd.S_mono HO172.out (fun _ hk => ⟨hk.2, hk.1.2.2⟩)⟩, ⟨by (with_reducible repeat (first | refine blk_drewN ?_ _ | refine blk_drew ?_ | refine blk_alloc ?_ _)); exact BK161.out⟩, ⟨by repeat (first | (with_reducible first | exact HB.out | apply below_alloc | apply pw_below_drewN | apply below_drew1 | refine below_set ?_ GE161.out) | exact HB.out)⟩⟩
                        · rw [if_neg c24] at H
                          exact absurd H (by simp)
                      · rw [if_neg c23] at H
                        exact absurd H (by simp)
                    · replace c20 := Bool.eq_false_iff.mpr c20
                      subst c20
                      have H1 : ((watch_Tick.f kj16 x162000_1 x162001_1 (Int.tmod (wrap64 (a1)) 5)).bind fun bt174 => (caravanlaw17_WatchRuns.l1 kj16 l0 (Int.tmod (wrap64 (a1)) 5) x7_1 x8_1 0 bt174.1 bt174.2)) = some r := by rw [if_neg (show ¬ (false = true) by decide)] at H; exact H
                      clear H
                      have H := H1
                      clear H1
                      replace H := Option.bind_eq_some_iff.mp H
                      obtain ⟨⟨t174, t177⟩, A360, H⟩ := H
                      replace H : (caravanlaw17_WatchRuns.l1 kj16 l0 (Int.tmod (wrap64 (a1)) 5) x7_1 x8_1 0 t174 t177) = some r := H
                      have A36 := Aside0.mk A360
                      clear A360
                      have H' := Aside0.mk H
                      clear H
                      have hcz37_0 : wc.cell? ⟨gb161, 0, none⟩ = some (u162000) := (blk_cell BK161.out 0).trans rfl
                      have hcz37_1 : wc.cell? ⟨gb161, 1, none⟩ = some (u162001) := (blk_cell BK161.out 1).trans rfl
                      have hfz37_0 := blk_frozen BK161.out 0
                      have hfz37_1 := blk_frozen BK161.out 1
                      obtain ⟨Ao38, co38, eo38⟩ := Kd.R_slice HO_162000.out
                      subst eo38
                      obtain ⟨Ao39, co39, eo39⟩ := Kd.S_slice HO_162001.out
                      subst eo39
                      go_wp2_with (first | ((with_reducible refine gate_callee (f := 9) rfl ?_); refine goesL_ (some 49) rfl rfl Try.func9 (by kernel_rfl) rfl #[.agg #[.slice Ao38 x162000_1.length co38, .slice Ao39 x162001_1.length co39], .int .i64 (Int.tmod (wrap64 (a1)) 5)] rfl (by (try simp only [List.map_toArray, List.map_cons, List.map_nil]); first | done | rfl | (simp only [List.length_drop, List.length_take]; rfl)) ?_; (with_reducible refine (watch_Tick.calls kj16 _ _ x162000_1 _ _ x162001_1 (Int.tmod (wrap64 (a1)) 5) t174 t177 _ ?side1 ?side2 ?side3 ?side4 A36.out).mono ?_); (case side1 => repeat (first | exact (Kd.R_reads' HO_162000.out).2.2 | (with_reducible refine Kd.C_alloc ?_ _) | (with_reducible refine Kd.C_drewN ?_ _) | (with_reducible refine Kd.C_drew ?_))); (case side2 => exact (Kd.R_reads' HO_162000.out).2.1); (case side3 => repeat (first | exact (Kd.S_reads' HO_162001.out).2.2 | (with_reducible refine Kd.C_alloc ?_ _) | (with_reducible refine Kd.C_drewN ?_ _) | (with_reducible refine Kd.C_drew ?_))); (case side4 => exact (Kd.S_reads' HO_162001.out).2.1); rintro e w40 ⟨v175, v178, rfl, ho0, ho1, hb⟩; refine ⟨_, rfl, ?_⟩; have n0_ := Aside0.mk (Kd.R_elder' (by (with_reducible repeat (first | apply Kd.R_alloc | apply Kd.R_drewN | apply Kd.R_drew)); exact HO_7.out) (Kd.R_base ho0) hb); have n1_ := Aside0.mk (Kd.R_elder' (by (with_reducible repeat (first | apply Kd.R_alloc | apply Kd.R_drewN | apply Kd.R_drew)); exact HO_162000.out) (Kd.R_base ho0) hb); have n2_ := Aside0.mk (Kd.S_mono (Kd.S_told (Kd.S_told (Kd.S_old (by (with_reducible repeat (first | apply Kd.S_alloc | apply Kd.S_drewN | apply Kd.S_drew)); exact HO_162001.out) hb) (Kd.R_base ho0)) (Kd.S_base ho1)) (fun _ h_ => h_.1)); have n3_ := Aside0.mk (Kd.R_lower (Kd.R_new' (Kd.R_new' ho0 (Kd.R_lt (by (with_reducible repeat (first | apply Kd.R_alloc | apply Kd.R_drewN | apply Kd.R_drew)); exact HO_7.out))) (Kd.R_lt (by (with_reducible repeat (first | apply Kd.R_alloc | apply Kd.R_drewN | apply Kd.R_drew)); exact HO_162000.out))) (below_size (by repeat (first | (with_reducible first | exact HB.out | apply below_alloc | apply pw_below_drewN | apply below_drew1 | refine below_set ?_ GE161.out) | exact HB.out)))); have n4_ := Aside0.mk (Kd.S_lower (Kd.S_new' (Kd.S_new' (Kd.S_new' ho1 (Kd.R_lt (by (with_reducible repeat (first | apply Kd.R_alloc | apply Kd.R_drewN | apply Kd.R_drew)); exact HO_7.out))) (Kd.R_lt (by (with_reducible repeat (first | apply Kd.R_alloc | apply Kd.R_drewN | apply Kd.R_drew)); exact HO_162000.out))) (Kd.S_lt (by (with_reducible repeat (first | apply Kd.S_alloc | apply Kd.S_drewN | apply Kd.S_drew)); exact HO_162001.out))) (below_size (by repeat (first | (with_reducible first | exact HB.out | apply below_alloc | apply pw_below_drewN | apply below_drew1 | refine below_set ?_ GE161.out) | exact HB.out)))); have n5_ := Aside0.mk (blk_below (g := gb161) (o := .cells #[.slice Ao38 x162000_1.length co38, .slice Ao39 x162001_1.length co39] 27 (0, 0)) (by (with_reducible repeat (first | refine blk_drewN ?_ _ | refine blk_drew ?_ | refine blk_alloc ?_ _)); exact BK161.out) hb); have n6_ := Aside0.mk (below_step (by repeat (first | (with_reducible first | exact HB.out | apply below_alloc | apply pw_below_drewN | apply below_drew1 | refine below_set ?_ GE161.out) | exact HB.out)) hb); clear HO_7; clear HO_162000; clear HO_162001; clear BK161; clear HB; have HO_7 := n0_; have HO_162000 := n1_; have HO_162001 := n2_; have HO176 := n3_; have HO179 := n4_; have BK161 := n5_; have HB := n6_; clear n0_ n1_ n2_ n3_ n4_ n5_ n6_; (try clear hb); (try clear hb2); (try clear hk); (try clear hi); (try clear ho0); (try clear ho1); obtain ⟨Ao41, co41, eo41⟩ := Kd.R_slice HO176.out; subst eo41; have hcz42_0 : w40.cell? ⟨gb161, 0, none⟩ = some (.slice Ao38 x162000_1.length co38) := (blk_cell BK161.out 0).trans rfl; have hcz42_1 : w40.cell? ⟨gb161, 1, none⟩ = some (.slice Ao39 x162001_1.length co39) := (blk_cell BK161.out 1).trans rfl; have hfz42_0 := blk_frozen BK161.out 0; have hfz42_1 := blk_frozen BK161.out 1; obtain ⟨Ao43, co43, eo43⟩ := Kd.S_slice HO179.out; subst eo43))
                      go_loopg [10] kj16 (fun kq v10 w' => ∃ (x7_3 : List Int) (x10_3 : Int), v10 = .int .i64 x10_3 ∧ Aside0 (caravanlaw17_WatchRuns.l1 kq l0 (Int.tmod (wrap64 (a1)) 5) x7_3 x8_1 x10_3 t174 t177 = some r) ∧ Aside0 (kq ≤ kj16) ∧ Aside0 (Kd.R (Kd.int .i64) 3 w' w.heap.size (fun k_ => some k_ ≠ ((.slice Ao41 t174.length co41) : Value).ownBlock) v163 x7_3) ∧ Aside0 (Kd.R (Kd.int .i64) 3 w' w.heap.size (fun k_ => some k_ ≠ (v163 : Value).ownBlock) (.slice Ao41 t174.length co41) t174) ∧ Aside0 (Kd.S (Kd.slice 3 (Kd.int .i64)) 24 w' w.heap.size (fun k_ => some k_ ≠ (v163 : Value).ownBlock ∧ some k_ ≠ ((.slice Ao41 t174.length co41) : Value).ownBlock) (.slice Ao43 t177.length co43) t177) ∧ Aside0 (w'.heap[gb161]? = some (.cells #[(.slice Ao41 t174.length co41), (.slice Ao43 t177.length co43)] 27 (0, 0))) ∧ Aside0 (Below w.heap.size w w'))
                      case atStart => exact ⟨(x7_1), (0), (by first | rfl | (simp; done) | (simp [*]; done)), H', ⟨Nat.le_refl _⟩, ⟨by (with_reducible repeat (first | apply Kd.R_alloc | apply Kd.R_drewN | apply Kd.R_drew)); exact Kd.R_mono (Kd.R_far (p := ⟨gb161, 1, none⟩) (Kd.R_far (p := ⟨gb161, 0, none⟩) (Kd.R_types HO_7.out BK161.out (by decide)) (fun _ hk => hk.2) (.slice Ao41 t174.length co41)) (fun _ hk => hk.2) (.slice Ao43 t177.length co43)) (fun _ hk => hk.1.2)⟩, ⟨by (with_reducible repeat (first | apply Kd.R_alloc | apply Kd.R_drewN | apply Kd.R_drew)); exact Kd.R_mono (Kd.R_far (p := ⟨gb161, 1, none⟩) (Kd.R_far (p := ⟨gb161, 0, none⟩) (Kd.R_types HO176.out BK161.out (by decide)) (fun _ hk => hk.2) (.slice Ao41 t174.length co41)) (fun _ hk => hk.2) (.slice Ao43 t177.length co43)) (fun _ hk => hk.1.1.2)⟩, ⟨by (with_reducible repeat (first | apply Kd.S_alloc | apply Kd.S_drewN | apply Kd.S_drew)); exact Kd.S_mono (Kd.S_far (p := ⟨gb161, 1, none⟩) (Kd.S_far (p := ⟨gb161, 0, none⟩) (Kd.S_types HO179.out BK161.out (by decide)) (fun _ hk => hk.2) (.slice Ao41 t174.length co41)) (fun _ hk => hk.2) (.slice Ao43 t177.length co43)) (fun _ hk => ⟨hk.1.1.1.2, hk.1.1.1.1⟩)⟩, ⟨by (with_reducible repeat (first | refine blk_drewN ?_ _ | refine blk_drew ?_ | refine blk_alloc ?_ _)); refine blk_put (cs := #[.slice Ao41 t174.length co41, .slice Ao39 x162001_1.length co39]) ?_ 1 _ rfl; (with_reducible repeat (first | refine blk_drewN ?_ _ | refine blk_drew ?_ | refine blk_alloc ?_ _)); refine blk_put (cs := #[.slice Ao38 x162000_1.length co38, .slice Ao39 x162001_1.length co39]) ?_ 0 _ rfl; (with_reducible repeat (first | refine blk_drewN ?_ _ | refine blk_drew ?_ | refine blk_alloc ?_ _)); exact BK161.out⟩, ⟨by repeat (first | (with_reducible first | exact HB.out | apply below_alloc | apply pw_below_drewN | apply below_drew1 | refine below_set ?_ GE161.out) | exact HB.out)⟩⟩
                      case round =>
                        clear H'
                        try clear c1
                        try clear p1
                        try clear q1
                        try clear hx1
                        try clear c2
                        try clear p2
                        try clear q2
                        try clear hx2
                        try clear hf2
                        try clear c3
                        try clear c3b0
                        try clear c3b1
                        try clear c6
                        try clear p6
                        try clear c7
                        try clear c7b0
                        try clear c7b1
                        try clear c8
                        try clear c9
                        try clear c15
                        try clear c15b0
                        try clear c16
                        try clear c16b0
                        try clear p16
                        try clear q16
                        try clear hx16
                        try clear c18
                        try clear c18b0
                        try clear c20
                        try clear c23
                        try clear c23b0
                        try clear c24
                        try clear c24b0
                        try clear p25
                        try clear q25
                        try clear hx25
                        try clear hf25
                        try clear hcz11_0
                        try clear hcz11_1
                        try clear hcz26_0
                        try clear hcz26_1
                        try clear hcz31_0
                        try clear hcz31_1
                        try clear hcz37_0
                        try clear hcz37_1
                        try clear hcz42_0
                        try clear hcz42_1
                        try clear hfz11_0
                        try clear hfz11_1
                        try clear hfz26_0
                        try clear hfz26_1
                        try clear hfz31_0
                        try clear hfz31_1
                        try clear hfz37_0
                        try clear hfz37_1
                        try clear hfz42_0
                        try clear hfz42_1
                        try clear hx166_0
                        try clear hx25_0
                        try clear p1
                        try clear p16
                        try clear p166
                        try clear p2
                        try clear p25
                        try clear p6
                        try clear q1
                        try clear q16
                        try clear q166
                        try clear q25
                        obtain ⟨x7_3, x10_3, rfl, HA, HK3, HO_7, HO_162000, HO_162001, BK161, HB⟩ := hrel
                        cases gk with
                        | zero => exact absurd HA.out (by simp [caravanlaw17_WatchRuns.l1])
                        | succ k3 =>
                          have H := HA.out
                          clear HA
                          simp only [caravanlaw17_WatchRuns.l1] at H
                          by_cases c44 : x10_3 < 5
                          · rw [if_pos c44] at H
                            have c44b0 : decide (x10_3 < 5) = true := decide_eq_true c44
                            clear c44
                            by_cases c45 : 0 ≤ x10_3
                            · rw [if_pos c45] at H
                              have c45b0 : decide (0 ≤ x10_3) = true := decide_eq_true c45
                              clear c45
                              by_cases c46 : x10_3 < (x7_3.length : Int)
                              · rw [if_pos c46] at H
                                have c46b0 : decide (x10_3 < (x7_3.length : Int)) = true := decide_eq_true c46
                                clear c46
                                obtain ⟨y181, hy181⟩ : ∃ y_ : List Int, y_ = (x7_3.set (x10_3 : Int).toNat (wrap64 ((rd x7_3 x10_3) + 1))) := ⟨_, rfl⟩
                                replace H : (caravanlaw17_WatchRuns.l1 k3 l0 (Int.tmod (wrap64 (a1)) 5) y181 x8_1 (wrap64 (x10_3 + 1)) t174 t177) = some r := by first | (rw [hy181]; with_reducible exact H) | (have H2_ := (Option.bind_some _ _).symm.trans H; rw [hy181]; with_reducible exact H2_) | (have H2_ := (Option.bind_some _ _).symm.trans H; with_reducible exact H2_) | with_reducible exact H | (rw [hy181]; exact H) | exact H
                                have Ny181 := Aside0.mk hy181
                                clear hy181
                                have H' := Aside0.mk H
                                clear H
                                obtain ⟨Ao48, co48, eo48⟩ := Kd.R_slice HO_7.out
                                subst eo48
                                have p180 : 0 ≤ (x10_3 : Int) := of_decide_eq_true (by first | (with_reducible assumption) | assumption)
                                have q180 : x10_3 < (x7_3.length : Int) := of_decide_eq_true (by first | (with_reducible assumption) | assumption)
                                obtain ⟨ad180, e180, hx180_0⟩ := Kd.at_int (Kd.R_reads' HO_7.out).2.2 x10_3 p180 q180
                                cases e180
                                replace p180 := eq_true p180
                                replace q180 := eq_true q180
                                have p47 : 0 ≤ (x10_3 : Int) := of_decide_eq_true (by first | (with_reducible assumption) | assumption)
                                have q47 : (x10_3 : Int) < ((x7_3.length : Int) : Int) := of_decide_eq_true (by first | (with_reducible assumption) | assumption)
                                obtain ⟨go47, co47, eo47, gb47, gl47, cl47, HG47⟩ := Kd.R_form HO_7.out (by omega)
                                (first | cases eo47 | (injection eo47 with ea_ en_ ec_; (first | subst ea_ | (injection ea_ with ea_; subst ea_)); subst ec_; clear en_))
                                have GB47 := Aside0.mk gb47
                                have GG47 := Aside0.mk HG47
                                clear gb47 gl47 HG47
                                (first | simp only [add_plain] at hx180_0 | skip)
                                obtain ⟨hx47_0, hf47_0⟩ := Kd.R_celln 0 HO_7.out (x10_3 : Int) p47 q47
                                replace p47 := eq_true p47
                                replace q47 := eq_true q47
                                have HP49 := Kd.R_putg HO_7.out (x10_3 : Int) (wrap64 ((rd x7_3 x10_3) + 1))
                                go_wp2_with (first | ((with_reducible refine gate_store (t := 3) (p := 59) rfl ?_); refine store_event (t := 3) (p := 59) (v := ?vo_w50) (w1 := (wr.setCell ⟨go47, (x10_3 : Int).toNat, none⟩ (.int .i64 (wrap64 ((rd x7_3 x10_3) + 1))))) ?hg ?ho ?hn ?hr ?_; (case ho => rfl); (case hg => rfl); (case hn => rfl); (case hr => first | (go_simp; done) | (go_simp; rfl)); intro w50 hw; have hg : wr.grownBy w50 (some go47) := (by rw [hw]; exact HP49.2); have hp_ : Kd.R (Kd.int .i64) 3 w50 w.heap.size (fun k_ => some k_ ≠ (.slice Ao41 t174.length co41 : Value).ownBlock) (.slice (some ⟨go47, 0, none⟩) x7_3.length co48) y181 := (by rw [hw, Ny181.out]; exact HP49.1); clear HP49; have n0_ := Aside0.mk (hp_); have n1_ := Aside0.mk (Kd.R_after (v := (.slice (some ⟨go47, 0, none⟩) x7_3.length co48)) (v1 := (.slice (some ⟨go47, 0, none⟩) x7_3.length co48)) (ok := (fun _ => True)) (by (with_reducible repeat (first | apply Kd.R_alloc | apply Kd.R_drewN | apply Kd.R_drew)); exact Kd.R_mono HO_162000.out (fun _ hk => ⟨trivial, hk⟩)) hg (.inl rfl)); have n2_ := Aside0.mk (Kd.S_after (v := (.slice (some ⟨go47, 0, none⟩) x7_3.length co48)) (v1 := (.slice (some ⟨go47, 0, none⟩) x7_3.length co48)) (ok := (fun k_ => some k_ ≠ (.slice Ao41 t174.length co41 : Value).ownBlock)) (by (with_reducible repeat (first | apply Kd.S_alloc | apply Kd.S_drewN | apply Kd.S_drew)); exact Kd.S_mono HO_162001.out (fun _ hk => ⟨hk.2, hk.1⟩)) hg (.inl rfl)); have n3_ := Aside0.mk (blk_grown (g := gb161) (o := .cells #[.slice Ao41 t174.length co41, .slice Ao43 t177.length co43] 27 (0, 0)) (by (with_reducible repeat (first | refine blk_drewN ?_ _ | refine blk_drew ?_ | refine blk_alloc ?_ _)); exact BK161.out) hg (Kd.R_ne HO_7.out BK161.out (by decide))); have n4_ := Aside0.mk ((by rw [hw]; exact below_set (HB.out) GB47.out : Below w.heap.size w w50)); clear HO_7; clear HO_162000; clear HO_162001; clear BK161; clear HB; have HO_7 := n0_; have HO_162000 := n1_; have HO_162001 := n2_; have BK161 := n3_; have HB := n4_; clear n0_ n1_ n2_ n3_ n4_; clear hg hw hp_))
                                go_roundg k3
                                case measure => have := HK1.out; have := HJ16.out; have := HK3.out; omega
                                case rel => exact ⟨(y181), (wrap64 (x10_3 + 1)), (by first | rfl | (simp; done) | (simp [*]; done)), H', ⟨by have := HK1.out; have := HJ16.out; have := HK3.out; omega⟩, ⟨by (with_reducible repeat (first | apply Kd.R_alloc | apply Kd.R_drewN | apply Kd.R_drew)); exact HO_7.out⟩, ⟨by (with_reducible repeat (first | apply Kd.R_alloc | apply Kd.R_drewN | apply Kd.R_drew)); exact Kd.R_mono HO_162000.out (fun _ hk => hk.2)⟩, ⟨by (with_reducible repeat (first | apply Kd.S_alloc | apply Kd.S_drewN | apply Kd.S_drew)); exact Kd.S_mono HO_162001.out (fun _ hk => ⟨hk.2, hk.1⟩)⟩, ⟨by (with_reducible repeat (first | refine blk_drewN ?_ _ | refine blk_drew ?_ | refine blk_alloc ?_ _)); exact BK161.out⟩, ⟨by repeat (first | (with_reducible first | exact HB.out | apply below_alloc | apply pw_below_drewN | apply below_drew1 | refine below_set ?_ GE161.out) | exact HB.out)⟩⟩
                              · rw [if_neg c46] at H
                                exact absurd H (by simp)
                            · rw [if_neg c45] at H
                              exact absurd H (by simp)
                          · rw [if_neg c44] at H
                            have c44b0 : decide (x10_3 < 5) = false := decide_eq_false c44
                            clear c44
                            have H' := Aside0.mk H
                            clear H
                            go_wp2
                            go_meet
                            case rel => exact ⟨_, (x7_3), (t174), (t177), (.slice Ao41 t174.length co41), (.slice Ao43 t177.length co43), H', ⟨by have := HK1.out; have := HJ16.out; have := HK3.out; first | omega | exact Nat.le_refl _⟩, ⟨by (with_reducible repeat (first | apply Kd.R_alloc | apply Kd.R_drewN | apply Kd.R_drew)); exact HO_7.out⟩, ⟨by (with_reducible repeat (first | apply Kd.R_alloc | apply Kd.R_drewN | apply Kd.R_drew)); exact HO_162000.out⟩, ⟨by (with_reducible repeat (first | apply Kd.S_alloc | apply Kd.S_drewN | apply Kd.S_drew)); exact HO_162001.out⟩, ⟨by (with_reducible repeat (first | refine blk_drewN ?_ _ | refine blk_drew ?_ | refine blk_alloc ?_ _)); exact BK161.out⟩, ⟨by repeat (first | (with_reducible first | exact HB.out | apply below_alloc | apply pw_below_drewN | apply below_drew1 | refine below_set ?_ GE161.out) | exact HB.out)⟩⟩
                  case rest =>
                    clear HC19
                    try clear c1
                    try clear p1
                    try clear q1
                    try clear hx1
                    try clear c2
                    try clear p2
                    try clear q2
                    try clear hx2
                    try clear hf2
                    try clear c3
                    try clear c3b0
                    try clear c3b1
                    try clear c4
                    try clear p4
                    try clear q4
                    try clear hx4
                    try clear hf4
                    try clear c6
                    try clear p6
                    try clear c7
                    try clear c7b0
                    try clear c7b1
                    try clear c8
                    try clear c9
                    try clear c15
                    try clear c15b0
                    try clear c16
                    try clear c16b0
                    try clear p16
                    try clear q16
                    try clear hx16
                    try clear c18
                    try clear c18b0
                    try clear p18
                    try clear q18
                    try clear hx18
                    try clear c20
                    try clear c23
                    try clear c23b0
                    try clear c24
                    try clear c24b0
                    try clear p25
                    try clear q25
                    try clear hx25
                    try clear hf25
                    try clear c44
                    try clear c44b0
                    try clear c45
                    try clear c45b0
                    try clear c46
                    try clear c46b0
                    try clear p47
                    try clear q47
                    try clear hx47
                    try clear hf47
                    try clear hcz11_0
                    try clear hcz11_1
                    try clear hcz26_0
                    try clear hcz26_1
                    try clear hcz31_0
                    try clear hcz31_1
                    try clear hcz37_0
                    try clear hcz37_1
                    try clear hcz42_0
                    try clear hcz42_1
                    try clear hfz11_0
                    try clear hfz11_1
                    try clear hfz26_0
                    try clear hfz26_1
                    try clear hfz31_0
                    try clear hfz31_1
                    try clear hfz37_0
                    try clear hfz37_1
                    try clear hfz42_0
                    try clear hfz42_1
                    try clear hx166_0
                    try clear hx180_0
                    try clear hx25_0
                    try clear hx47_0
                    try clear p1
                    try clear p16
                    try clear p166
                    try clear p180
                    try clear p2
                    try clear p25
                    try clear p47
                    try clear p6
                    try clear q1
                    try clear q16
                    try clear q166
                    try clear q180
                    try clear q2
                    try clear q25
                    try clear q47
                    obtain ⟨kq, x7_18, x162000_18, x162001_18, u162000, u162001, HA, HJ18, HO_7, HO_162000, HO_162001, BK161, HB⟩ := hcut
                    cases kq with
                    | zero => exact absurd HA.out (by simp [caravanlaw17_WatchRuns.j3])
                    | succ kj18 =>
                      have H := HA.out
                      clear HA
                      simp only [caravanlaw17_WatchRuns.j3] at H
                      obtain ⟨ji51, hji51⟩ : ∃ j_ : Int, (Int.tmod (wrap64 (a1)) 5) = j_ := ⟨_, rfl⟩
                      replace H : (if 0 ≤ (ji51) then (if (ji51) < (x7_18.length : Int) then (caravanlaw17_WatchRuns.l2 kj18 l0 (ji51) (x7_18.set ((ji51) : Int).toNat 0) x8_1 ([] : List Int) 0 x162000_18 x162001_18) else (none)) else (none)) = some r := by first | (rw [hji51] at H; exact H) | (simp only [hji51] at H ⊢; exact H)
                      (try simp only [hji51] at *)
                      by_cases c52 : 0 ≤ (ji51)
                      · rw [if_pos c52] at H
                        have c52b0 : decide (0 ≤ (ji51)) = true := decide_eq_true c52
                        clear c52
                        by_cases c53 : (ji51) < (x7_18.length : Int)
                        · rw [if_pos c53] at H
                          have c53b0 : decide ((ji51) < (x7_18.length : Int)) = true := decide_eq_true c53
                          clear c53
                          obtain ⟨y182, hy182⟩ : ∃ y_ : List Int, y_ = (x7_18.set ((ji51) : Int).toNat 0) := ⟨_, rfl⟩
                          replace H : (caravanlaw17_WatchRuns.l2 kj18 l0 (ji51) y182 x8_1 ([] : List Int) 0 x162000_18 x162001_18) = some r := by first | (rw [hy182]; with_reducible exact H) | (have H2_ := (Option.bind_some _ _).symm.trans H; rw [hy182]; with_reducible exact H2_) | (have H2_ := (Option.bind_some _ _).symm.trans H; with_reducible exact H2_) | with_reducible exact H | (rw [hy182]; exact H) | exact H
                          have Ny182 := Aside0.mk hy182
                          clear hy182
                          have H' := Aside0.mk H
                          clear H
                          have p54 : 0 ≤ ((ji51) : Int) := of_decide_eq_true (by first | (with_reducible assumption) | assumption)
                          have q54 : ((ji51) : Int) < ((x7_18.length : Int) : Int) := of_decide_eq_true (by first | (with_reducible assumption) | assumption)
                          obtain ⟨go54, co54, eo54, gb54, gl54, cl54, HG54⟩ := Kd.R_form HO_7.out (by omega)
                          (first | cases eo54 | (injection eo54 with ea_ en_ ec_; (first | subst ea_ | (injection ea_ with ea_; subst ea_)); subst ec_; clear en_))
                          have GB54 := Aside0.mk gb54
                          have GG54 := Aside0.mk HG54
                          clear gb54 gl54 HG54
                          obtain ⟨hx54_0, hf54_0⟩ := Kd.R_celln 0 HO_7.out ((ji51) : Int) p54 q54
                          replace p54 := eq_true p54
                          replace q54 := eq_true q54
                          have HP55 := Kd.R_putg HO_7.out ((ji51) : Int) 0
                          go_wp2_with (first | ((with_reducible refine gate_store (t := 3) (p := 62) rfl ?_); refine store_event (t := 3) (p := 62) (v := ?vo_w56) (w1 := (wc.setCell ⟨go54, ((ji51) : Int).toNat, none⟩ (.int .i64 0))) ?hg ?ho ?hn ?hr ?_; (case ho => rfl); (case hg => rfl); (case hn => rfl); (case hr => first | (go_simp; done) | (go_simp; rfl)); intro w56 hw; have hg : wc.grownBy w56 (some go54) := (by rw [hw]; exact HP55.2); have hp_ : Kd.R (Kd.int .i64) 3 w56 w.heap.size (fun k_ => some k_ ≠ (u162000 : Value).ownBlock) (.slice (some ⟨go54, 0, none⟩) x7_18.length co54) y182 := (by rw [hw, Ny182.out]; exact HP55.1); clear HP55; have n0_ := Aside0.mk (hp_); have n1_ := Aside0.mk (Kd.R_after (v := (.slice (some ⟨go54, 0, none⟩) x7_18.length co54)) (v1 := (.slice (some ⟨go54, 0, none⟩) x7_18.length co54)) (ok := (fun _ => True)) (by (with_reducible repeat (first | apply Kd.R_alloc | apply Kd.R_drewN | apply Kd.R_drew)); exact Kd.R_mono HO_162000.out (fun _ hk => ⟨trivial, hk⟩)) hg (.inl rfl)); have n2_ := Aside0.mk (Kd.S_after (v := (.slice (some ⟨go54, 0, none⟩) x7_18.length co54)) (v1 := (.slice (some ⟨go54, 0, none⟩) x7_18.length co54)) (ok := (fun k_ => some k_ ≠ (u162000 : Value).ownBlock)) (by (with_reducible repeat (first | apply Kd.S_alloc | apply Kd.S_drewN | apply Kd.S_drew)); exact Kd.S_mono HO_162001.out (fun _ hk => ⟨hk.2, hk.1⟩)) hg (.inl rfl)); have n3_ := Aside0.mk (blk_grown (g := gb161) (o := .cells #[u162000, u162001] 27 (0, 0)) (by (with_reducible repeat (first | refine blk_drewN ?_ _ | refine blk_drew ?_ | refine blk_alloc ?_ _)); exact BK161.out) hg (Kd.R_ne HO_7.out BK161.out (by decide))); have n4_ := Aside0.mk ((by rw [hw]; exact below_set (HB.out) GB54.out : Below w.heap.size w w56)); clear HO_7; clear HO_162000; clear HO_162001; clear BK161; clear HB; have HO_7 := n0_; have HO_162000 := n1_; have HO_162001 := n2_; have BK161 := n3_; have HB := n4_; clear n0_ n1_ n2_ n3_ n4_; clear hg hw hp_))
                          go_loopg [11, 12] kj18 (fun kq v11 v12 w' => ∃ (x11_4 : List Int) (x12_4 : Int), v12 = .int .i64 x12_4 ∧ Aside0 (caravanlaw17_WatchRuns.l2 kq l0 (ji51) y182 x8_1 x11_4 x12_4 x162000_18 x162001_18 = some r) ∧ Aside0 (kq ≤ kj18) ∧ Aside0 (Kd.R (Kd.int .i64) 3 w' w.heap.size (fun k_ => some k_ ≠ (v11 : Value).ownBlock ∧ some k_ ≠ (u162000 : Value).ownBlock) (.slice (some ⟨go54, 0, none⟩) x7_18.length co54) y182) ∧ Aside0 (Kd.R (Kd.int .i64) 3 w' w.heap.size (fun k_ => some k_ ≠ ((.slice (some ⟨go54, 0, none⟩) x7_18.length co54) : Value).ownBlock ∧ some k_ ≠ (u162000 : Value).ownBlock) v11 x11_4) ∧ Aside0 (Kd.R (Kd.int .i64) 3 w' w.heap.size (fun k_ => some k_ ≠ ((.slice (some ⟨go54, 0, none⟩) x7_18.length co54) : Value).ownBlock ∧ some k_ ≠ (v11 : Value).ownBlock) u162000 x162000_18) ∧ Aside0 (Kd.S (Kd.slice 3 (Kd.int .i64)) 24 w' w.heap.size (fun k_ => some k_ ≠ ((.slice (some ⟨go54, 0, none⟩) x7_18.length co54) : Value).ownBlock ∧ some k_ ≠ (v11 : Value).ownBlock ∧ some k_ ≠ (u162000 : Value).ownBlock) u162001 x162001_18) ∧ Aside0 (w'.heap[gb161]? = some (.cells #[u162000, u162001] 27 (0, 0))) ∧ Aside0 (Below w.heap.size w w'))
                          case atStart => exact ⟨(([] : List Int)), (0), (by first | rfl | (simp; done) | (simp [*]; done)), H', ⟨Nat.le_refl _⟩, ⟨by (with_reducible repeat (first | apply Kd.R_alloc | apply Kd.R_drewN | apply Kd.R_drew)); exact Kd.R_mono HO_7.out (fun _ hk => ⟨(by simp [Value.ownBlock]), hk⟩)⟩, ⟨by first | exact Kd.R_nil _ _ _ _ _ | exact Kd.N_nil _ _ _ _ _ | exact Kd.V_nil _ _ _ _ _ | exact Kd.Q_nil _ _ _ _ _ | exact Kd.S_nil _ _ _ _ _⟩, ⟨by (with_reducible repeat (first | apply Kd.R_alloc | apply Kd.R_drewN | apply Kd.R_drew)); exact Kd.R_mono HO_162000.out (fun _ hk => ⟨hk.2, (by simp [Value.ownBlock])⟩)⟩, ⟨by (with_reducible repeat (first | apply Kd.S_alloc | apply Kd.S_drewN | apply Kd.S_drew)); exact Kd.S_mono HO_162001.out (fun _ hk => ⟨hk.2, ⟨(by simp [Value.ownBlock]), hk.1⟩⟩)⟩, ⟨by (with_reducible repeat (first | refine blk_drewN ?_ _ | refine blk_drew ?_ | refine blk_alloc ?_ _)); exact BK161.out⟩, ⟨by repeat (first | (with_reducible first | exact HB.out | apply below_alloc | apply pw_below_drewN | apply below_drew1 | refine below_set ?_ GE161.out) | exact HB.out)⟩⟩
                          case round =>
                            clear H'
                            try clear c1
                            try clear p1
                            try clear q1
                            try clear hx1
                            try clear c2
                            try clear p2
                            try clear q2
                            try clear hx2
                            try clear hf2
                            try clear c3
                            try clear c3b0
                            try clear c3b1
                            try clear c4
                            try clear p4
                            try clear q4
                            try clear hx4
                            try clear hf4
                            try clear c5
                            try clear p5
                            try clear q5
                            try clear hx5
                            try clear hf5
                            try clear c6
                            try clear p6
                            try clear c7
                            try clear c7b0
                            try clear c7b1
                            try clear c8
                            try clear c9
                            try clear c15
                            try clear c15b0
                            try clear c16
                            try clear c16b0
                            try clear p16
                            try clear q16
                            try clear hx16
                            try clear c18
                            try clear c18b0
                            try clear p18
                            try clear q18
                            try clear hx18
                            try clear c20
                            try clear c23
                            try clear c23b0
                            try clear c24
                            try clear c24b0
                            try clear p25
                            try clear q25
                            try clear hx25
                            try clear hf25
                            try clear c44
                            try clear c44b0
                            try clear c45
                            try clear c45b0
                            try clear c46
                            try clear c46b0
                            try clear p47
                            try clear q47
                            try clear hx47
                            try clear hf47
                            try clear c52
                            try clear c52b0
                            try clear c53
                            try clear c53b0
                            try clear p54
                            try clear q54
                            try clear hx54
                            try clear hf54
                            try clear hcz11_0
                            try clear hcz11_1
                            try clear hcz26_0
                            try clear hcz26_1
                            try clear hcz31_0
                            try clear hcz31_1
                            try clear hcz37_0
                            try clear hcz37_1
                            try clear hcz42_0
                            try clear hcz42_1
                            try clear hfz11_0
                            try clear hfz11_1
                            try clear hfz26_0
                            try clear hfz26_1
                            try clear hfz31_0
                            try clear hfz31_1
                            try clear hfz37_0
                            try clear hfz37_1
                            try clear hfz42_0
                            try clear hfz42_1
                            try clear hx166_0
                            try clear hx180_0
                            try clear hx25_0
                            try clear hx47_0
                            try clear hx54_0
                            try clear p1
                            try clear p16
                            try clear p166
                            try clear p18
                            try clear p180
                            try clear p2
                            try clear p25
                            try clear p4
                            try clear p47
                            try clear p54
                            try clear p6
                            try clear q1
                            try clear q16
                            try clear q166
                            try clear q18
                            try clear q180
                            try clear q2
                            try clear q25
                            try clear q4
                            try clear q47
                            try clear q54
                            obtain ⟨x11_4, x12_4, rfl, HA, HK4, HO_7, HO_11, HO_162000, HO_162001, BK161, HB⟩ := hrel
                            have hl7_4 := (Kd.R_reads' HO_7.out).1
                            rw [hl7_4] at HO_7
                            (try simp only [hl7_4])
                            (try simp only [hl7_4] at BK161)
                            (try simp only [hl7_4] at HO_11)
                            (try simp only [hl7_4] at HO_162000)
                            (try simp only [hl7_4] at HO_162001)
                            cases gk with
                            | zero => exact absurd HA.out (by simp [caravanlaw17_WatchRuns.l2])
                            | succ k4 =>
                              have H := HA.out
                              clear HA
                              simp only [caravanlaw17_WatchRuns.l2] at H
                              by_cases c57 : x12_4 < 5
                              · rw [if_pos c57] at H
                                have c57b0 : decide (x12_4 < 5) = true := decide_eq_true c57
                                clear c57
                                by_cases c58 : 0 ≤ x12_4
                                · rw [if_pos c58] at H
                                  have c58b0 : decide (0 ≤ x12_4) = true := decide_eq_true c58
                                  clear c58
                                  by_cases c59 : x12_4 < (y182.length : Int)
                                  · rw [if_pos c59] at H
                                    have c59b0 : decide (x12_4 < (y182.length : Int)) = true := decide_eq_true c59
                                    clear c59
                                    by_cases c60 : (rd y182 x12_4) ≥ 6
                                    · rw [if_pos c60] at H
                                      have c60b0 : decide (6 ≤ (rd y182 x12_4)) = true := decide_eq_true c60
                                      clear c60
                                      by_cases c61 : x11_4.length < 17592186044416
                                      · rw [if_pos c61] at H
                                        have LMc61 := Aside0.mk c61
                                        clear c61
                                        obtain ⟨y184, hy184⟩ : ∃ y_ : List Int, y_ = (x11_4 ++ [x12_4]) := ⟨_, rfl⟩
                                        replace H : (caravanlaw17_WatchRuns.l2 k4 l0 (ji51) y182 x8_1 y184 (wrap64 (x12_4 + 1)) x162000_18 x162001_18) = some r := by first | (rw [hy184]; with_reducible exact H) | (have H2_ := (Option.bind_some _ _).symm.trans H; rw [hy184]; with_reducible exact H2_) | (have H2_ := (Option.bind_some _ _).symm.trans H; with_reducible exact H2_) | with_reducible exact H | (rw [hy184]; exact H) | exact H
                                        have Ny184 := Aside0.mk hy184
                                        clear hy184
                                        have H' := Aside0.mk H
                                        clear H
                                        have p183 : 0 ≤ (x12_4 : Int) := of_decide_eq_true (by first | (with_reducible assumption) | assumption)
                                        have q183 : x12_4 < (y182.length : Int) := of_decide_eq_true (by first | (with_reducible assumption) | assumption)
                                        obtain ⟨ad183, e183, hx183_0⟩ := Kd.at_int (Kd.R_reads' HO_7.out).2.2 x12_4 p183 q183
                                        obtain rfl : (⟨go54, 0, none⟩ : Addr) = ad183 := (by injection e183)
                                        (first | simp only [add_plain] at hx183_0 | simp only [add_at] at hx183_0 | simp only [Addr.add, Nat.zero_add] at hx183_0 | skip)
                                        replace p183 := eq_true p183
                                        replace q183 := eq_true q183
                                        go_wp2_with (first | ((with_reducible refine gate_builtin (b := .append) (xs := #[.tmp 72, .tmp 74]) rfl ?_); at_builtin; refine Kd.R_append (Kd.int .i64) (w0 := w) w.heap.size rfl (.tmp 72) (.tmp 74) 24 3 (.int .i64 0) 8 rfl Try.underlying24 info3 rfl (by decide) (by omega) u11 x11_4 x12_4 [.int .i64 x12_4] (fun k_ => some k_ ≠ (.slice (some ⟨go54, 0, none⟩) y182.length co54 : Value).ownBlock ∧ some k_ ≠ (u162000 : Value).ownBlock) (fun _ => False) rfl rfl ?aP (fun _ hk => hk.elim) ?aF ?aO ?aB ?aS ?aL ?_; (case aP => exact rfl); (case aB => exact (by repeat (first | (with_reducible first | exact HB.out | apply below_alloc | apply pw_below_drewN | apply below_drew1 | refine below_set ?_ GE161.out) | exact HB.out))); (case aF => exact (fun k_ hk => ⟨Kd.fresh' (Kd.R_lt (by (with_reducible repeat (first | apply Kd.R_alloc | apply Kd.R_drewN | apply Kd.R_drew)); exact HO_7.out)) k_ hk, Kd.fresh' (Kd.R_lt (by (with_reducible repeat (first | apply Kd.R_alloc | apply Kd.R_drewN | apply Kd.R_drew)); exact HO_162000.out)) k_ hk⟩)); (case aO => exact (by (with_reducible repeat (first | apply Kd.R_alloc | apply Kd.R_drewN | apply Kd.R_drew)); exact HO_11.out)); (case aS => exact (below_size (by repeat (first | (with_reducible first | exact HB.out | apply below_alloc | apply pw_below_drewN | apply below_drew1 | refine below_set ?_ GE161.out) | exact HB.out)))); (case aL => have := LMc61.out; omega); intro v185 w62 ho hb hg hat; rw [← Ny184.out] at ho; have n0_ := Aside0.mk (Kd.R_after (ok := (fun k_ => some k_ ≠ (u162000 : Value).ownBlock)) (by (with_reducible repeat (first | apply Kd.R_alloc | apply Kd.R_drewN | apply Kd.R_drew)); exact Kd.R_mono HO_7.out (fun _ hk => ⟨hk.2, hk.1⟩)) hg hat); have n1_ := Aside0.mk (Kd.R_after (ok := (fun k_ => some k_ ≠ (.slice (some ⟨go54, 0, none⟩) y182.length co54 : Value).ownBlock)) (by (with_reducible repeat (first | apply Kd.R_alloc | apply Kd.R_drewN | apply Kd.R_drew)); exact HO_162000.out) hg hat); have n2_ := Aside0.mk (Kd.S_after (ok := (fun k_ => some k_ ≠ (.slice (some ⟨go54, 0, none⟩) y182.length co54 : Value).ownBlock ∧ some k_ ≠ (u162000 : Value).ownBlock)) (by (with_reducible repeat (first | apply Kd.S_alloc | apply Kd.S_drewN | apply Kd.S_drew)); exact Kd.S_mono HO_162001.out (fun _ hk => ⟨⟨hk.1, hk.2.2⟩, hk.2.1⟩)) hg hat); have n3_ := Aside0.mk (blk_grown (g := gb161) (o := .cells #[u162000, u162001] 27 (0, 0)) (by (with_reducible repeat (first | refine blk_drewN ?_ _ | refine blk_drew ?_ | refine blk_alloc ?_ _)); exact BK161.out) hg (Kd.R_ne HO_11.out BK161.out (by decide))); have n4_ := Aside0.mk (hb); have n5_ := Aside0.mk (ho); clear HO_7; clear HO_162000; clear HO_162001; clear BK161; clear HB; clear HO_11; have HO_7 := n0_; have HO_162000 := n1_; have HO_162001 := n2_; have BK161 := n3_; have HB := n4_; have HO186 := n5_; clear n0_ n1_ n2_ n3_ n4_ n5_; clear ho hb hg hat))
                                        (try simp only [← hl7_4])
                                        go_roundg k4
                                        case measure => have := HK1.out; have := HJ16.out; have := HJ18.out; have := HK4.out; omega
                                        case rel => exact ⟨(y184), (wrap64 (x12_4 + 1)), (by first | rfl | (simp; done) | (simp [*]; done)), H', ⟨by have := HK1.out; have := HJ16.out; have := HJ18.out; have := HK4.out; omega⟩, ⟨by (try simp only [hl7_4]); (with_reducible repeat (first | apply Kd.R_alloc | apply Kd.R_drewN | apply Kd.R_drew)); exact Kd.R_mono HO_7.out (fun _ hk => ⟨hk.2, hk.1⟩)⟩, ⟨by (try simp only [hl7_4]); (with_reducible repeat (first | apply Kd.R_alloc | apply Kd.R_drewN | apply Kd.R_drew)); exact HO186.out⟩, ⟨by (try simp only [hl7_4]); (with_reducible repeat (first | apply Kd.R_alloc | apply Kd.R_drewN | apply Kd.R_drew)); exact HO_162000.out⟩, ⟨by (try simp only [hl7_4]); (with_reducible repeat (first | apply Kd.S_alloc | apply Kd.S_drewN | apply Kd.S_drew)); exact Kd.S_mono HO_162001.out (fun _ hk => ⟨hk.1.1, ⟨hk.2, hk.1.2⟩⟩)⟩, ⟨by (try simp only [hl7_4]); (with_reducible repeat (first | refine blk_drewN ?_ _ | refine blk_drew ?_ | refine blk_alloc ?_ _)); exact BK161.out⟩, ⟨by repeat (first | (with_reducible first | exact HB.out | apply below_alloc | apply pw_below_drewN | apply below_drew1 | refine below_set ?_ GE161.out) | exact HB.out)⟩⟩
                                      · rw [if_neg c61] at H
                                        exact absurd H (by simp)
                                    · rw [if_neg c60] at H
                                      have c60b0 : decide (6 ≤ (rd y182 x12_4)) = false := decide_eq_false c60
                                      clear c60
                                      have H' := Aside0.mk H
                                      clear H
                                      have p183 : 0 ≤ (x12_4 : Int) := of_decide_eq_true (by first | (with_reducible assumption) | assumption)
                                      have q183 : x12_4 < (y182.length : Int) := of_decide_eq_true (by first | (with_reducible assumption) | assumption)
                                      obtain ⟨ad183, e183, hx183_0⟩ := Kd.at_int (Kd.R_reads' HO_7.out).2.2 x12_4 p183 q183
                                      obtain rfl : (⟨go54, 0, none⟩ : Addr) = ad183 := (by injection e183)
                                      (first | simp only [add_plain] at hx183_0 | simp only [add_at] at hx183_0 | simp only [Addr.add, Nat.zero_add] at hx183_0 | skip)
                                      replace p183 := eq_true p183
                                      replace q183 := eq_true q183
                                      go_wp2
                                      (try simp only [← hl7_4])
                                      go_roundg k4
                                      case measure => have := HK1.out; have := HJ16.out; have := HJ18.out; have := HK4.out; omega
                                      case rel => exact ⟨(x11_4), (wrap64 (x12_4 + 1)), (by first | rfl | (simp; done) | (simp [*]; done)), H', ⟨by have := HK1.out; have := HJ16.out; have := HJ18.out; have := HK4.out; omega⟩, ⟨by (try simp only [hl7_4]); (with_reducible repeat (first | apply Kd.R_alloc | apply Kd.R_drewN | apply Kd.R_drew)); exact HO_7.out⟩, ⟨by (try simp only [hl7_4]); (with_reducible repeat (first | apply Kd.R_alloc | apply Kd.R_drewN | apply Kd.R_drew)); exact HO_11.out⟩, ⟨by (try simp only [hl7_4]); (with_reducible repeat (first | apply Kd.R_alloc | apply Kd.R_drewN | apply Kd.R_drew)); exact HO_162000.out⟩, ⟨by (try simp only [hl7_4]); (with_reducible repeat (first | apply Kd.S_alloc | apply Kd.S_drewN | apply Kd.S_drew)); exact HO_162001.out⟩, ⟨by (try simp only [hl7_4]); (with_reducible repeat (first | refine blk_drewN ?_ _ | refine blk_drew ?_ | refine blk_alloc ?_ _)); exact BK161.out⟩, ⟨by repeat (first | (with_reducible first | exact HB.out | apply below_alloc | apply pw_below_drewN | apply below_drew1 | refine below_set ?_ GE161.out) | exact HB.out)⟩⟩
                                  · rw [if_neg c59] at H
                                    exact absurd H (by simp)
                                · rw [if_neg c58] at H
                                  exact absurd H (by simp)
                              · rw [if_neg c57] at H
                                have c57b0 : decide (x12_4 < 5) = false := decide_eq_false c57
                                clear c57
                                replace H := Option.bind_eq_some_iff.mp H
                                obtain ⟨t187, A630, H⟩ := H
                                replace H : ((caravanref1_Ints.f k4 t187 x11_4).bind fun t190 => (if t190 = true then (caravanlaw17_WatchRuns.l0 k4 l0 (ji51) y182 (wrap64 (x8_1 + 1)) x162000_18 x162001_18) else (some false))) = some r := H
                                have A63 := Aside0.mk A630
                                clear A630
                                replace H := Option.bind_eq_some_iff.mp H
                                obtain ⟨t190, A640, H⟩ := H
                                replace H : (if t190 = true then (caravanlaw17_WatchRuns.l0 k4 l0 (ji51) y182 (wrap64 (x8_1 + 1)) x162000_18 x162001_18) else (some false)) = some r := H
                                have A64 := Aside0.mk A640
                                clear A640
                                by_cases c65 : t190 = true
                                · subst c65
                                  have H1 : (caravanlaw17_WatchRuns.l0 k4 l0 (ji51) y182 (wrap64 (x8_1 + 1)) x162000_18 x162001_18) = some r := by rw [if_pos rfl] at H; exact H
                                  clear H
                                  have H := H1
                                  clear H1
                                  have H' := Aside0.mk H
                                  clear H
                                  have hcz66_0 : wr.cell? ⟨gb161, 0, none⟩ = some (u162000) := (blk_cell BK161.out 0).trans rfl
                                  have hcz66_1 : wr.cell? ⟨gb161, 1, none⟩ = some (u162001) := (blk_cell BK161.out 1).trans rfl
                                  have hfz66_0 := blk_frozen BK161.out 0
                                  have hfz66_1 := blk_frozen BK161.out 1
                                  obtain ⟨Ao67, co67, eo67⟩ := Kd.R_slice HO_162000.out
                                  subst eo67
                                  obtain ⟨Ao68, co68, eo68⟩ := Kd.S_slice HO_162001.out
                                  subst eo68
                                  go_wp2_with (first | ((with_reducible refine gate_callee (f := 11) rfl ?_); refine goesL_ (some 77) rfl rfl Try.func11 (by kernel_rfl) rfl #[.agg #[.slice Ao67 x162000_18.length co67, .slice Ao68 x162001_18.length co68]] rfl (by (try simp only [List.map_toArray, List.map_cons, List.map_nil]); first | done | rfl | (simp only [List.length_drop, List.length_take]; rfl)) ?_; (with_reducible refine (watch_Suspects.calls k4 _ _ x162000_18 _ _ x162001_18 t187 _ ?side1 ?side2 ?side3 ?side4 A63.out).mono ?_); (case side1 => repeat (first | exact (Kd.R_reads' HO_162000.out).2.2 | (with_reducible refine Kd.C_alloc ?_ _) | (with_reducible refine Kd.C_drewN ?_ _) | (with_reducible refine Kd.C_drew ?_))); (case side2 => exact (Kd.R_reads' HO_162000.out).2.1); (case side3 => repeat (first | exact (Kd.S_reads' HO_162001.out).2.2 | (with_reducible refine Kd.C_alloc ?_ _) | (with_reducible refine Kd.C_drewN ?_ _) | (with_reducible refine Kd.C_drew ?_))); (case side4 => exact (Kd.S_reads' HO_162001.out).2.1); rintro e w69 ⟨v188, rfl, ho0, hb⟩; refine ⟨_, rfl, ?_⟩; have n0_ := Aside0.mk (Kd.R_elder' (by (with_reducible repeat (first | apply Kd.R_alloc | apply Kd.R_drewN | apply Kd.R_drew)); exact HO_7.out) (Kd.R_base ho0) hb); have n1_ := Aside0.mk (Kd.R_elder' (by (with_reducible repeat (first | apply Kd.R_alloc | apply Kd.R_drewN | apply Kd.R_drew)); exact HO_11.out) (Kd.R_base ho0) hb); have n2_ := Aside0.mk (Kd.R_elder' (by (with_reducible repeat (first | apply Kd.R_alloc | apply Kd.R_drewN | apply Kd.R_drew)); exact HO_162000.out) (Kd.R_base ho0) hb); have n3_ := Aside0.mk (Kd.S_elder' (by (with_reducible repeat (first | apply Kd.S_alloc | apply Kd.S_drewN | apply Kd.S_drew)); exact HO_162001.out) (Kd.R_base ho0) hb); have n4_ := Aside0.mk (Kd.R_lower (Kd.R_new' (Kd.R_new' (Kd.R_new' ho0 (Kd.R_lt (by (with_reducible repeat (first | apply Kd.R_alloc | apply Kd.R_drewN | apply Kd.R_drew)); exact HO_7.out))) (Kd.R_lt (by (with_reducible repeat (first | apply Kd.R_alloc | apply Kd.R_drewN | apply Kd.R_drew)); exact HO_11.out))) (Kd.R_lt (by (with_reducible repeat (first | apply Kd.R_alloc | apply Kd.R_drewN | apply Kd.R_drew)); exact HO_162000.out))) (below_size (by repeat (first | (with_reducible first | exact HB.out | apply below_alloc | apply pw_below_drewN | apply below_drew1 | refine below_set ?_ GE161.out) | exact HB.out)))); have n5_ := Aside0.mk (blk_below (g := gb161) (o := .cells #[.slice Ao67 x162000_18.length co67, .slice Ao68 x162001_18.length co68] 27 (0, 0)) (by (with_reducible repeat (first | refine blk_drewN ?_ _ | refine blk_drew ?_ | refine blk_alloc ?_ _)); exact BK161.out) hb); have n6_ := Aside0.mk (below_step (by repeat (first | (with_reducible first | exact HB.out | apply below_alloc | apply pw_below_drewN | apply below_drew1 | refine below_set ?_ GE161.out) | exact HB.out)) hb); clear HO_7; clear HO_11; clear HO_162000; clear HO_162001; clear BK161; clear HB; have HO_7 := n0_; have HO_11 := n1_; have HO_162000 := n2_; have HO_162001 := n3_; have HO189 := n4_; have BK161 := n5_; have HB := n6_; clear n0_ n1_ n2_ n3_ n4_ n5_ n6_; (try clear hb); (try clear hb2); (try clear hk); (try clear hi); (try clear ho0); obtain ⟨Ao70, co70, eo70⟩ := Kd.R_slice HO189.out; subst eo70; obtain ⟨Ao71, co71, eo71⟩ := Kd.R_slice HO_11.out; subst eo71) | ((with_reducible refine gate_callee (f := 10) rfl ?_); refine goesL_ (some 79) rfl rfl Try.func10 (by kernel_rfl) rfl #[.slice Ao70 t187.length co70, .slice Ao71 x11_4.length co71] rfl (by (try simp only [List.map_toArray, List.map_cons, List.map_nil]); first | done | rfl | (simp only [List.length_drop, List.length_take]; rfl)) ?_; (with_reducible refine (caravanref1_Ints.calls k4 _ _ t187 _ _ x11_4 true _ ?side1 ?side2 ?side3 ?side4 A64.out).mono ?_); (case side1 => repeat (first | exact (Kd.R_reads' HO189.out).2.2 | (with_reducible refine Kd.C_alloc ?_ _) | (with_reducible refine Kd.C_drewN ?_ _) | (with_reducible refine Kd.C_drew ?_))); (case side2 => exact (Kd.R_reads' HO189.out).2.1); (case side3 => repeat (first | exact (Kd.R_reads' HO_11.out).2.2 | (with_reducible refine Kd.C_alloc ?_ _) | (with_reducible refine Kd.C_drewN ?_ _) | (with_reducible refine Kd.C_drew ?_))); (case side4 => exact (Kd.R_reads' HO_11.out).2.1); rintro e w' ⟨rfl, ⟨nd, rfl⟩⟩; refine ⟨_, rfl, ?_⟩))
                                  (try simp only [← hl7_4])
                                  go_roundg k4
                                  case measure => have := HK1.out; have := HJ16.out; have := HJ18.out; have := HK4.out; omega
                                  case rel => exact ⟨(y182), (wrap64 (x8_1 + 1)), (x162000_18), (x162001_18), (.slice Ao67 x162000_18.length co67), (.slice Ao68 x162001_18.length co68), (by first | rfl | (simp; done) | (simp [*]; done)), H', ⟨by have := HK1.out; have := HJ16.out; have := HJ18.out; have := HK4.out; omega⟩, ⟨by (try simp only [hl7_4]); (with_reducible repeat (first | apply Kd.R_alloc | apply Kd.R_drewN | apply Kd.R_drew)); exact Kd.R_mono HO_7.out (fun _ hk => hk.1.2)⟩, ⟨by (try simp only [hl7_4]); (with_reducible repeat (first | apply Kd.R_alloc | apply Kd.R_drewN | apply Kd.R_drew)); exact Kd.R_mono HO_162000.out (fun _ hk => hk.1.1)⟩, ⟨by (try simp only [hl7_4]); (with_reducible repeat (first | apply Kd.S_alloc | apply Kd.S_drewN | apply Kd.S_drew)); exact Kd.S_mono HO_162001.out (fun _ hk => ⟨hk.1.1, hk.1.2.2⟩)⟩, ⟨by (try simp only [hl7_4]); (with_reducible repeat (first | refine blk_drewN ?_ _ | refine blk_drew ?_ | refine blk_alloc ?_ _)); exact BK161.out⟩, ⟨by repeat (first | (with_reducible first | exact HB.out | apply below_alloc | apply pw_below_drewN | apply below_drew1 | refine below_set ?_ GE161.out) | exact HB.out)⟩⟩
                                · replace c65 := Bool.eq_false_iff.mpr c65
                                  subst c65
                                  have H1 : (some false) = some r := by rw [if_neg (show ¬ (false = true) by decide)] at H; exact H
                                  clear H
                                  have H := H1
                                  clear H1
                                  obtain rfl := Option.some.inj H
                                  have hcz72_0 : wr.cell? ⟨gb161, 0, none⟩ = some (u162000) := (blk_cell BK161.out 0).trans rfl
                                  have hcz72_1 : wr.cell? ⟨gb161, 1, none⟩ = some (u162001) := (blk_cell BK161.out 1).trans rfl
                                  have hfz72_0 := blk_frozen BK161.out 0
                                  have hfz72_1 := blk_frozen BK161.out 1
                                  obtain ⟨Ao73, co73, eo73⟩ := Kd.R_slice HO_162000.out
                                  subst eo73
                                  obtain ⟨Ao74, co74, eo74⟩ := Kd.S_slice HO_162001.out
                                  subst eo74
                                  go_wp2_with (first | ((with_reducible refine gate_callee (f := 11) rfl ?_); refine goesL_ (some 77) rfl rfl Try.func11 (by kernel_rfl) rfl #[.agg #[.slice Ao73 x162000_18.length co73, .slice Ao74 x162001_18.length co74]] rfl (by (try simp only [List.map_toArray, List.map_cons, List.map_nil]); first | done | rfl | (simp only [List.length_drop, List.length_take]; rfl)) ?_; (with_reducible refine (watch_Suspects.calls k4 _ _ x162000_18 _ _ x162001_18 t187 _ ?side1 ?side2 ?side3 ?side4 A63.out).mono ?_); (case side1 => repeat (first | exact (Kd.R_reads' HO_162000.out).2.2 | (with_reducible refine Kd.C_alloc ?_ _) | (with_reducible refine Kd.C_drewN ?_ _) | (with_reducible refine Kd.C_drew ?_))); (case side2 => exact (Kd.R_reads' HO_162000.out).2.1); (case side3 => repeat (first | exact (Kd.S_reads' HO_162001.out).2.2 | (with_reducible refine Kd.C_alloc ?_ _) | (with_reducible refine Kd.C_drewN ?_ _) | (with_reducible refine Kd.C_drew ?_))); (case side4 => exact (Kd.S_reads' HO_162001.out).2.1); rintro e w75 ⟨v188, rfl, ho0, hb⟩; refine ⟨_, rfl, ?_⟩; have n0_ := Aside0.mk (Kd.R_elder' (by (with_reducible repeat (first | apply Kd.R_alloc | apply Kd.R_drewN | apply Kd.R_drew)); exact HO_7.out) (Kd.R_base ho0) hb); have n1_ := Aside0.mk (Kd.R_elder' (by (with_reducible repeat (first | apply Kd.R_alloc | apply Kd.R_drewN | apply Kd.R_drew)); exact HO_11.out) (Kd.R_base ho0) hb); have n2_ := Aside0.mk (Kd.R_elder' (by (with_reducible repeat (first | apply Kd.R_alloc | apply Kd.R_drewN | apply Kd.R_drew)); exact HO_162000.out) (Kd.R_base ho0) hb); have n3_ := Aside0.mk (Kd.S_elder' (by (with_reducible repeat (first | apply Kd.S_alloc | apply Kd.S_drewN | apply Kd.S_drew)); exact HO_162001.out) (Kd.R_base ho0) hb); have n4_ := Aside0.mk (Kd.R_lower (Kd.R_new' (Kd.R_new' (Kd.R_new' ho0 (Kd.R_lt (by (with_reducible repeat (first | apply Kd.R_alloc | apply Kd.R_drewN | apply Kd.R_drew)); exact HO_7.out))) (Kd.R_lt (by (with_reducible repeat (first | apply Kd.R_alloc | apply Kd.R_drewN | apply Kd.R_drew)); exact HO_11.out))) (Kd.R_lt (by (with_reducible repeat (first | apply Kd.R_alloc | apply Kd.R_drewN | apply Kd.R_drew)); exact HO_162000.out))) (below_size (by repeat (first | (with_reducible first | exact HB.out | apply below_alloc | apply pw_below_drewN | apply below_drew1 | refine below_set ?_ GE161.out) | exact HB.out)))); have n5_ := Aside0.mk (blk_below (g := gb161) (o := .cells #[.slice Ao73 x162000_18.length co73, .slice Ao74 x162001_18.length co74] 27 (0, 0)) (by (with_reducible repeat (first | refine blk_drewN ?_ _ | refine blk_drew ?_ | refine blk_alloc ?_ _)); exact BK161.out) hb); have n6_ := Aside0.mk (below_step (by repeat (first | (with_reducible first | exact HB.out | apply below_alloc | apply pw_below_drewN | apply below_drew1 | refine below_set ?_ GE161.out) | exact HB.out)) hb); clear HO_7; clear HO_11; clear HO_162000; clear HO_162001; clear BK161; clear HB; have HO_7 := n0_; have HO_11 := n1_; have HO_162000 := n2_; have HO_162001 := n3_; have HO189 := n4_; have BK161 := n5_; have HB := n6_; clear n0_ n1_ n2_ n3_ n4_ n5_ n6_; (try clear hb); (try clear hb2); (try clear hk); (try clear hi); (try clear ho0); obtain ⟨Ao76, co76, eo76⟩ := Kd.R_slice HO189.out; subst eo76; obtain ⟨Ao77, co77, eo77⟩ := Kd.R_slice HO_11.out; subst eo77) | ((with_reducible refine gate_callee (f := 10) rfl ?_); refine goesL_ (some 79) rfl rfl Try.func10 (by kernel_rfl) rfl #[.slice Ao76 t187.length co76, .slice Ao77 x11_4.length co77] rfl (by (try simp only [List.map_toArray, List.map_cons, List.map_nil]); first | done | rfl | (simp only [List.length_drop, List.length_take]; rfl)) ?_; (with_reducible refine (caravanref1_Ints.calls k4 _ _ t187 _ _ x11_4 false _ ?side1 ?side2 ?side3 ?side4 A64.out).mono ?_); (case side1 => repeat (first | exact (Kd.R_reads' HO189.out).2.2 | (with_reducible refine Kd.C_alloc ?_ _) | (with_reducible refine Kd.C_drewN ?_ _) | (with_reducible refine Kd.C_drew ?_))); (case side2 => exact (Kd.R_reads' HO189.out).2.1); (case side3 => repeat (first | exact (Kd.R_reads' HO_11.out).2.2 | (with_reducible refine Kd.C_alloc ?_ _) | (with_reducible refine Kd.C_drewN ?_ _) | (with_reducible refine Kd.C_drew ?_))); (case side4 => exact (Kd.R_reads' HO_11.out).2.1); rintro e w' ⟨rfl, ⟨nd, rfl⟩⟩; refine ⟨_, rfl, ?_⟩))
                                  go_ret
                                  exact ⟨by first | rfl | (simp [errW_none, errW_some] <;> rfl) | (simp only [← hji51]; first | rfl | (simp [errW_none, errW_some] <;> rfl)) | (simp [*, errW_none, errW_some] <;> rfl), by repeat (first | (with_reducible first | exact HB.out | apply below_alloc | apply pw_below_drewN | apply below_drew1 | refine below_set ?_ GE161.out) | exact HB.out)⟩
                        · rw [if_neg c53] at H
                          exact absurd H (by simp)
                      · rw [if_neg c52] at H
                        exact absurd H (by simp)
            · rw [if_neg c16] at H
              exact absurd H (by simp)
          · rw [if_neg c15] at H
            have c15b0 : decide (x8_1 < (l0.length : Int)) = false := decide_eq_false c15
            clear c15
            replace H := Option.bind_eq_some_iff.mp H
            obtain ⟨t165, A780, H⟩ := H
            replace H : (some t165) = some r := H
            have A78 := Aside0.mk A780
            clear A780
            obtain rfl := Option.some.inj H
            go_wp2_with (first | ((with_reducible refine gate_callee (f := 6) rfl ?_); refine goesL_ (some 81) rfl rfl Try.func6 (by kernel_rfl) rfl #[] rfl (by (try simp only [List.map_toArray, List.map_cons, List.map_nil]); first | done | rfl | (simp only [List.length_drop, List.length_take]; rfl)) ?_; (with_reducible refine (caravanlaw17_awake.calls k1  t165 _ A78.out).mono ?_); rintro e w79 ⟨rfl, hb⟩; refine ⟨_, rfl, ?_⟩; have n0_ := Aside0.mk (Kd.R_below (by (with_reducible repeat (first | apply Kd.R_alloc | apply Kd.R_drewN | apply Kd.R_drew)); exact HO_7.out) hb); have n1_ := Aside0.mk (Kd.R_below (by (with_reducible repeat (first | apply Kd.R_alloc | apply Kd.R_drewN | apply Kd.R_drew)); exact HO_162000.out) hb); have n2_ := Aside0.mk (Kd.S_below (by (with_reducible repeat (first | apply Kd.S_alloc | apply Kd.S_drewN | apply Kd.S_drew)); exact HO_162001.out) hb); have n3_ := Aside0.mk (blk_below (g := gb161) (o := .cells #[u162000, u162001] 27 (0, 0)) (by (with_reducible repeat (first | refine blk_drewN ?_ _ | refine blk_drew ?_ | refine blk_alloc ?_ _)); exact BK161.out) hb); have n4_ := Aside0.mk (below_step (by repeat (first | (with_reducible first | exact HB.out | apply below_alloc | apply pw_below_drewN | apply below_drew1 | refine below_set ?_ GE161.out) | exact HB.out)) hb); clear HO_7; clear HO_162000; clear HO_162001; clear BK161; clear HB; have HO_7 := n0_; have HO_162000 := n1_; have HO_162001 := n2_; have BK161 := n3_; have HB := n4_; clear n0_ n1_ n2_ n3_ n4_; (try clear hb); (try clear hb2); (try clear hk); (try clear hi)))
            go_ret
            exact ⟨by first | rfl | (simp [errW_none, errW_some] <;> rfl) | (simp [*, errW_none, errW_some] <;> rfl), by repeat (first | (with_reducible first | exact HB.out | apply below_alloc | apply pw_below_drewN | apply below_drew1 | refine below_set ?_ GE161.out) | exact HB.out)⟩
    · rw [if_neg c7] at H
      exact absurd H (by simp)

/-- THE ONE PURE STATEMENT of caravanlaw17_WatchRuns: yours. -/
def caravanlaw17_WatchRuns.Pure : Prop := ∀ (l0 : List Int) (a1 : Int), l0.length ≤ maxLen → l0.length * 1 ≤ 140737488351232 → (∀ x ∈ l0, (Lit.int .u8 x).wf = true) → (Lit.int .u8 a1).wf = true → ∃ k, caravanlaw17_WatchRuns.f k l0 a1 = some true
theorem caravanlaw17_WatchRuns.walk (P : caravanlaw17_WatchRuns.Pure) (a0 : Option Addr) (len0 cap0 : Nat) (z0 : List Int) (a1 : Int) (w : World) (w0 : (a0 = none ∧ len0 = 0 ∧ cap0 = 0 ∧ z0 = []) ∨ ∃ x, a0 = some x ∧ len0 ≤ cap0 ∧ cap0 ≤ maxLen ∧ z0.length = cap0 ∧ (∀ i, i < z0.length → w.cell? (x.add i) = some (.int .u8 (z0.getD i 0))) ∧ ∀ n ∈ z0, (Lit.int .u8 n).wf = true) (y0 : len0 * 1 ≤ 140737488351232) (w1 : (Lit.int .u8 a1).wf = true) :
    Calls Try.prog 3 #[.slice a0 len0 cap0, .int .u8 a1] w fun e w' => e = .returned (.bool true) ∧ Below w.heap.size w w' := by
  obtain ⟨l0, rfl, hr0, hm0, hw0, hc0⟩ := ReadsInt.ofRowC w0
  obtain ⟨k, h⟩ := P l0 a1 hm0 y0 hw0 w1
  refine (caravanlaw17_WatchRuns.calls k _ _ l0 a1 true w (Kd.C_of_reads (d := (0 : Int)) (h1 := fun _ => rfl) hr0) hc0 h).mono ?_
  rintro e w' ⟨rfl, hd⟩
  exact ⟨rfl, hd⟩

end Go.Proofs.Ytbjpopooijhpdaa.WX

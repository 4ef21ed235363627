/- The machine side of a law: what Go functions compute, as Lean functions, and the proofs of it. Conditions: none. (Written by wip/myprint.py of this session's repo.) -/
import Derived.Test.YtgbncimfkjfjcaaSXx0
namespace Go.Proofs.Ytgbncimfkjfjcaa.SX
open Go.RowKit Go.Proofs.YtgbncimfkjfjcaaW.PrintWords Go.Proofs.YtgbncimfkjfjcaaW.PrintLast Go.Proofs.YtgbncimfkjfjcaaW.PrintMore
attribute [local go_sem] max2_int min2_int max_two min_two max_three min_three max_four min_four   -- for this text's walks alone
set_option linter.unusedVariables false
set_option linter.unusedSimpArgs false

/-! ### slot_Crc: function 10 -/
mutual
def slot_Crc.l0 : Nat → Int → List Int → Int → Int → Option (Int)
  | 0, _, _, _, _ => none
  | k + 1, x3, x7, x8, x9 => if x9 < x8 then (if 0 ≤ x9 then (if x9 < (x7.length : Int) then (slot_Crc.l1 k (Go.bits .xor .u16 x3 (IntKind.u16.wrap ((IntKind.u16.wrap (rd x7 x9)) * 256))) x7 x8 x9 0) else (none)) else (none)) else (some (wrap64 (x3)))
def slot_Crc.l1 : Nat → Int → List Int → Int → Int → Int → Option (Int)
  | 0, _, _, _, _, _ => none
  | k + 1, x3, x7, x8, x9, x18 => if x18 < 8 then (slot_Crc.l1 k (Go.bits .xor .u16 (IntKind.u16.wrap (x3 * 2)) (IntKind.u16.wrap (4129 * (x3 / 32768)))) x7 x8 x9 (wrap64 (x18 + 1))) else (slot_Crc.l0 k x3 x7 x8 (wrap64 (x9 + 1)))
end
def slot_Crc.f (k : Nat) (l0 : List Int) : Option (Int) := slot_Crc.l0 k 0 l0 (l0.length : Int) 0
theorem slot_Crc.mono_l : ∀ k, (∀ y0 y1 y2 y3, LeO (slot_Crc.l0 k y0 y1 y2 y3) (slot_Crc.l0 (k + 1) y0 y1 y2 y3)) ∧ (∀ y0 y1 y2 y3 y4, LeO (slot_Crc.l1 k y0 y1 y2 y3 y4) (slot_Crc.l1 (k + 1) y0 y1 y2 y3 y4))
  | 0 => ⟨fun _ _ _ _ r h => by simp [slot_Crc.l0] at h, fun _ _ _ _ _ r h => by simp [slot_Crc.l1] at h⟩
  | k + 1 => by
    obtain ⟨ih0, ih1⟩ := slot_Crc.mono_l k
    refine ⟨?_, ?_⟩
    · intro y0 y1 y2 y3
      unfold slot_Crc.l0
      repeat' first
      | (with_reducible exact ih0 _ _ _ _)
      | (with_reducible exact ih1 _ _ _ _ _)
      | (with_reducible exact LeO.refl _)
      | (with_reducible exact LeO.none _)
      | (with_reducible refine LeO.ite ?_ ?_)
      | (with_reducible refine LeO.bind ?_ (fun _ => ?_))
      | exact ih0 _ _ _ _
      | exact ih1 _ _ _ _ _
      | exact LeO.none _
      | refine LeO.ite ?_ ?_
      | refine LeO.bind ?_ (fun _ => ?_)
    · intro y0 y1 y2 y3 y4
      unfold slot_Crc.l1
      repeat' first
      | (with_reducible exact ih0 _ _ _ _)
      | (with_reducible exact ih1 _ _ _ _ _)
      | (with_reducible exact LeO.refl _)
      | (with_reducible exact LeO.none _)
      | (with_reducible refine LeO.ite ?_ ?_)
      | (with_reducible refine LeO.bind ?_ (fun _ => ?_))
      | exact ih0 _ _ _ _
      | exact ih1 _ _ _ _ _
      | exact LeO.none _
      | refine LeO.ite ?_ ?_
      | refine LeO.bind ?_ (fun _ => ?_)
theorem slot_Crc.mono : ∀ a0 k, LeO (slot_Crc.f k a0) (slot_Crc.f (k + 1) a0) := by
  intro a0 k
  obtain ⟨ih0, ih1⟩ := slot_Crc.mono_l k
  unfold slot_Crc.f
  repeat' first
      | (with_reducible exact ih0 _ _ _ _)
      | (with_reducible exact ih1 _ _ _ _ _)
      | (with_reducible exact LeO.refl _)
      | (with_reducible exact LeO.none _)
      | (with_reducible refine LeO.ite ?_ ?_)
      | (with_reducible refine LeO.bind ?_ (fun _ => ?_))
      | exact ih0 _ _ _ _
      | exact ih1 _ _ _ _ _
      | exact LeO.none _
      | refine LeO.ite ?_ ?_
      | refine LeO.bind ?_ (fun _ => ?_)
set_option maxHeartbeats 8000000 in
set_option maxRecDepth 100000 in
theorem slot_Crc.calls (k : Nat) (A0 : Option Addr) (c0 : Nat) (l0 : List Int) (r : Int) (w : World) (hr0 : Kd.C (Kd.int .u8) w A0 l0.length l0) (hc0 : l0.length ≤ c0) (h : slot_Crc.f k l0 = some r) :
    Calls Try.prog 10 #[.slice A0 l0.length c0] w fun e w' => e = .returned (.int .i64 r) ∧ Drawn0 w w' := by
  have HR0 := Aside0.mk hr0
  have HC0 := Aside0.mk hc0
  clear hr0 hc0
  have H : (slot_Crc.l0 k 0 l0 (l0.length : Int) 0) = some r := h
  clear h
  have H' := Aside0.mk H
  clear H
  go_enter Try.func10, Try.ntmps10
  go_wp2
  go_loopg [3, 9] k (fun kq v3 v9 w' => ∃ (x3_1 : Int) (x9_1 : Int), v3 = .int .u16 x3_1 ∧ v9 = .int .i64 x9_1 ∧ Aside0 (slot_Crc.l0 kq x3_1 l0 (l0.length : Int) x9_1 = some r) ∧ Aside0 (kq ≤ k) ∧ Drawn0 w w')
  case atStart => exact ⟨(0), (0), (by first | rfl | (simp; done) | (simp [*]; done)), (by first | rfl | (simp; done) | (simp [*]; done)), H', ⟨Nat.le_refl _⟩, by repeat (first | exact Drawn0.refl _ | apply Drawn0.step)⟩
  case round =>
    clear H'
    try clear c1
    obtain ⟨x3_1, x9_1, rfl, rfl, HA, HK1, ⟨m1, rfl⟩⟩ := hrel
    cases gk with
    | zero => exact absurd HA.out (by simp [slot_Crc.l0])
    | succ k1 =>
      have H := HA.out
      clear HA
      simp only [slot_Crc.l0] at H
      by_cases c2 : x9_1 < (l0.length : Int)
      · rw [if_pos c2] at H
        have c2b0 : decide (x9_1 < (l0.length : Int)) = true := decide_eq_true c2
        clear c2
        by_cases c3 : 0 ≤ x9_1
        · rw [if_pos c3] at H
          have c3b0 : decide (0 ≤ x9_1) = true := decide_eq_true c3
          clear c3
          by_cases c4 : x9_1 < (l0.length : Int)
          · rw [if_pos c4] at H
            have c4b0 : decide (x9_1 < (l0.length : Int)) = true := decide_eq_true c4
            clear c4
            have H' := Aside0.mk H
            clear H
            have p101 : 0 ≤ (x9_1 : Int) := of_decide_eq_true (by first | (with_reducible assumption) | assumption)
            have q101 : x9_1 < (l0.length : Int) := of_decide_eq_true (by first | (with_reducible assumption) | assumption)
            obtain ⟨ad101, e101, hx101_0⟩ := Kd.at_int HR0.out x9_1 p101 q101
            cases e101
            replace p101 := eq_true p101
            replace q101 := eq_true q101
            go_wp2
            go_loopg [3, 18] k1 (fun kq v3 v18 w' => ∃ (x3_2 : Int) (x18_2 : Int), v3 = .int .u16 x3_2 ∧ v18 = .int .i64 x18_2 ∧ Aside0 (slot_Crc.l1 kq x3_2 l0 (l0.length : Int) x9_1 x18_2 = some r) ∧ Aside0 (kq ≤ k1) ∧ Drawn0 w w')
            case atStart => exact ⟨(Go.bits .xor .u16 x3_1 (IntKind.u16.wrap ((IntKind.u16.wrap (rd l0 x9_1)) * 256))), (0), (by first | rfl | (simp; done) | (simp [*]; done)), (by first | rfl | (simp; done) | (simp [*]; done)), H', ⟨Nat.le_refl _⟩, by repeat (first | exact Drawn0.refl _ | apply Drawn0.step)⟩
            case round =>
              clear H'
              try clear c1
              try clear p1
              try clear q1
              try clear hx1
              try clear c2
              try clear c2b0
              try clear p2
              try clear c3
              try clear c3b0
              try clear c4
              try clear c4b0
              try clear hx101_0
              try clear p101
              try clear q101
              obtain ⟨x3_2, x18_2, rfl, rfl, HA, HK2, ⟨m2, rfl⟩⟩ := hrel
              cases gk with
              | zero => exact absurd HA.out (by simp [slot_Crc.l1])
              | succ k2 =>
                have H := HA.out
                clear HA
                simp only [slot_Crc.l1] at H
                by_cases c5 : x18_2 < 8
                · rw [if_pos c5] at H
                  have c5b0 : decide (x18_2 < 8) = true := decide_eq_true c5
                  clear c5
                  have H' := Aside0.mk H
                  clear H
                  go_wp2
                  go_roundg k2
                  case measure => have := HK1.out; have := HK2.out; omega
                  case rel => exact ⟨(Go.bits .xor .u16 (IntKind.u16.wrap (x3_2 * 2)) (IntKind.u16.wrap (4129 * (x3_2 / 32768)))), (wrap64 (x18_2 + 1)), (by first | rfl | (simp; done) | (simp [*]; done)), (by first | rfl | (simp; done) | (simp [*]; done)), H', ⟨by have := HK1.out; have := HK2.out; omega⟩, by repeat (first | exact Drawn0.refl _ | apply Drawn0.step)⟩
                · rw [if_neg c5] at H
                  have c5b0 : decide (x18_2 < 8) = false := decide_eq_false c5
                  clear c5
                  have H' := Aside0.mk H
                  clear H
                  go_wp2
                  go_roundg k2
                  case measure => have := HK1.out; have := HK2.out; omega
                  case rel => exact ⟨(x3_2), (wrap64 (x9_1 + 1)), (by first | rfl | (simp; done) | (simp [*]; done)), (by first | rfl | (simp; done) | (simp [*]; done)), H', ⟨by have := HK1.out; have := HK2.out; omega⟩, by repeat (first | exact Drawn0.refl _ | apply Drawn0.step)⟩
          · rw [if_neg c4] at H
            exact absurd H (by simp)
        · rw [if_neg c3] at H
          exact absurd H (by simp)
      · rw [if_neg c2] at H
        have c2b0 : decide (x9_1 < (l0.length : Int)) = false := decide_eq_false c2
        clear c2
        obtain rfl := Option.some.inj H
        go_wp2
        go_ret
        exact ⟨by first | rfl | (simp; done) | (simp [*]; done), by repeat (first | exact Drawn0.refl _ | apply Drawn0.step)⟩

/-! ### caravanlaw1_awake: function 9 -/
def caravanlaw1_awake.f (k : Nat)  : Option (Bool) := (slot_Crc.f k (([49, 50, 51, 52, 53, 54, 55, 56, 57] : List Int))).bind fun t105 => (some (t105 == 12739))
theorem caravanlaw1_awake.mono : ∀ k, LeO (caravanlaw1_awake.f k ) (caravanlaw1_awake.f (k + 1) ) := by
  intro  k
  unfold caravanlaw1_awake.f
  exact LeO.bind (slot_Crc.mono _ _) (fun _ => LeO.refl _)
theorem awake_crc (k : Nat) (A : Option Addr) (r : Int) (W : World) (hr : Kd.C (Kd.int .u8) W A 9 ([49, 50, 51, 52, 53, 54, 55, 56, 57] : List Int)) (h : slot_Crc.f k ([49, 50, 51, 52, 53, 54, 55, 56, 57] : List Int) = some r) :
    Calls Try.prog 10 #[.slice A 9 9] W fun e w' => e = .returned (.int .i64 r) ∧ Drawn0 W w' :=
  slot_Crc.calls k A 9 ([49, 50, 51, 52, 53, 54, 55, 56, 57] : List Int) r W hr (Nat.le_refl _) h
theorem awake_reads (w : World) : Kd.C (Kd.int .u8) (w.alloc (.cells #[.int .u8 49, .int .u8 50, .int .u8 51, .int .u8 52, .int .u8 53, .int .u8 54, .int .u8 55, .int .u8 56, .int .u8 57] 5 (9, 10))) (some ⟨w.heap.size, 0, none⟩) 9 ([49, 50, 51, 52, 53, 54, 55, 56, 57] : List Int) := by
  refine Kd.C_of_reads (enc := Value.int .u8) (d := (0 : Int)) (h1 := fun _ => rfl) ⟨rfl, by decide, fun _ => ⟨_, rfl, fun j hj => ?_⟩⟩
  rw [add_plain, cell_of_row _ w.heap.size j _ 5 (9, 10) (heap_alloc_new w _)]
  match j, hj with
  | 0, _ => rfl
  | 1, _ => rfl
  | 2, _ => rfl
  | 3, _ => rfl
  | 4, _ => rfl
  | 5, _ => rfl
  | 6, _ => rfl
  | 7, _ => rfl
  | 8, _ => rfl
set_option maxRecDepth 100000 in
theorem caravanlaw1_awake.calls (k : Nat)  (r : Bool) (w : World) (h : caravanlaw1_awake.f k  = some r) :
    Calls Try.prog 9 #[] w fun e w' => e = .returned (.bool r) ∧ Below w.heap.size w w' := by
  unfold caravanlaw1_awake.f at h
  obtain ⟨t105, A10, H⟩ := Option.bind_eq_some_iff.mp h
  obtain rfl := Option.some.inj H
  have A1 := Aside0.mk A10
  clear A10 h H
  have kc := fun (w : World) (C : Array Value) (n c : Nat) => Lib.run_convert_bytes_const (P := Try.prog) w 22 5 C n c Try.underlying22 Try.underlying5
  go_enter Try.func9, Try.ntmps9
  go_wp2_with (go_at_call 10; refine (awake_crc k _ _ _ (awake_reads _) A1.out).mono ?_; rintro e w' ⟨rfl, ⟨m, rfl⟩⟩)
  go_ret
  exact ⟨rfl, pw_below_drewN (below_alloc (Below.refl _ _) _) _⟩

/-! ### caravanref1_Crc: function 11 -/
mutual
def caravanref1_Crc.l0 : Nat → ByteArray → Int → Int → Option (Int)
  | 0, _, _, _ => none
  | k + 1, x0, x3, x4 => if x4 < (x0.size : Int) then (if 0 ≤ x4 then (caravanref1_Crc.l1 k x0 (Go.bits .xor .i64 x3 (wrap64 ((wrap64 (bt x0 x4)) * 256))) x4 0) else (none)) else (some x3)
def caravanref1_Crc.l1 : Nat → ByteArray → Int → Int → Int → Option (Int)
  | 0, _, _, _, _ => none
  | k + 1, x0, x3, x4, x5 => if x5 < 8 then (if (wrap64 (x3 * 2)) ≥ 65536 then (caravanref1_Crc.l1 k x0 (Go.bits .and .i64 (Go.bits .xor .i64 (wrap64 (x3 * 2)) 4129) 65535) x4 (wrap64 (x5 + 1))) else (caravanref1_Crc.l1 k x0 (wrap64 (x3 * 2)) x4 (wrap64 (x5 + 1)))) else (caravanref1_Crc.l0 k x0 x3 (wrap64 (x4 + 1)))
end
def caravanref1_Crc.f (k : Nat) (a0 : ByteArray) : Option (Int) := caravanref1_Crc.l0 k a0 0 0
theorem caravanref1_Crc.mono_l : ∀ k, (∀ y0 y1 y2, LeO (caravanref1_Crc.l0 k y0 y1 y2) (caravanref1_Crc.l0 (k + 1) y0 y1 y2)) ∧ (∀ y0 y1 y2 y3, LeO (caravanref1_Crc.l1 k y0 y1 y2 y3) (caravanref1_Crc.l1 (k + 1) y0 y1 y2 y3))
  | 0 => ⟨fun _ _ _ r h => by simp [caravanref1_Crc.l0] at h, fun _ _ _ _ r h => by simp [caravanref1_Crc.l1] at h⟩
  | k + 1 => by
    obtain ⟨ih0, ih1⟩ := caravanref1_Crc.mono_l k
    refine ⟨?_, ?_⟩
    · intro y0 y1 y2
      unfold caravanref1_Crc.l0
      repeat' first
      | (with_reducible exact ih0 _ _ _)
      | (with_reducible exact ih1 _ _ _ _)
      | (with_reducible exact LeO.refl _)
      | (with_reducible exact LeO.none _)
      | (with_reducible refine LeO.ite ?_ ?_)
      | (with_reducible refine LeO.bind ?_ (fun _ => ?_))
      | exact ih0 _ _ _
      | exact ih1 _ _ _ _
      | exact LeO.none _
      | refine LeO.ite ?_ ?_
      | refine LeO.bind ?_ (fun _ => ?_)
    · intro y0 y1 y2 y3
      unfold caravanref1_Crc.l1
      repeat' first
      | (with_reducible exact ih0 _ _ _)
      | (with_reducible exact ih1 _ _ _ _)
      | (with_reducible exact LeO.refl _)
      | (with_reducible exact LeO.none _)
      | (with_reducible refine LeO.ite ?_ ?_)
      | (with_reducible refine LeO.bind ?_ (fun _ => ?_))
      | exact ih0 _ _ _
      | exact ih1 _ _ _ _
      | exact LeO.none _
      | refine LeO.ite ?_ ?_
      | refine LeO.bind ?_ (fun _ => ?_)
theorem caravanref1_Crc.mono : ∀ a0 k, LeO (caravanref1_Crc.f k a0) (caravanref1_Crc.f (k + 1) a0) := by
  intro a0 k
  obtain ⟨ih0, ih1⟩ := caravanref1_Crc.mono_l k
  unfold caravanref1_Crc.f
  repeat' first
      | (with_reducible exact ih0 _ _ _)
      | (with_reducible exact ih1 _ _ _ _)
      | (with_reducible exact LeO.refl _)
      | (with_reducible exact LeO.none _)
      | (with_reducible refine LeO.ite ?_ ?_)
      | (with_reducible refine LeO.bind ?_ (fun _ => ?_))
      | exact ih0 _ _ _
      | exact ih1 _ _ _ _
      | exact LeO.none _
      | refine LeO.ite ?_ ?_
      | refine LeO.bind ?_ (fun _ => ?_)
set_option maxHeartbeats 8000000 in
set_option maxRecDepth 100000 in
theorem caravanref1_Crc.calls (k : Nat) (a0 : ByteArray) (r : Int) (w : World) (h : caravanref1_Crc.f k a0 = some r) :
    Calls Try.prog 11 #[.string a0] w fun e w' => e = .returned (.int .i64 r) ∧ Drawn0 w w' := by
  have H : (caravanref1_Crc.l0 k a0 0 0) = some r := h
  clear h
  have H' := Aside0.mk H
  clear H
  go_enter Try.func11, Try.ntmps11
  go_wp2
  go_loopg [3, 4] k (fun kq v3 v4 w' => ∃ (x3_1 : Int) (x4_1 : Int), v3 = .int .i64 x3_1 ∧ v4 = .int .i64 x4_1 ∧ Aside0 (caravanref1_Crc.l0 kq a0 x3_1 x4_1 = some r) ∧ Aside0 (kq ≤ k) ∧ Drawn0 w w')
  case atStart => exact ⟨(0), (0), (by first | rfl | (simp; done) | (simp [*]; done)), (by first | rfl | (simp; done) | (simp [*]; done)), H', ⟨Nat.le_refl _⟩, by repeat (first | exact Drawn0.refl _ | apply Drawn0.step)⟩
  case round =>
    clear H'
    try clear c1
    obtain ⟨x3_1, x4_1, rfl, rfl, HA, HK1, ⟨m1, rfl⟩⟩ := hrel
    cases gk with
    | zero => exact absurd HA.out (by simp [caravanref1_Crc.l0])
    | succ k1 =>
      have H := HA.out
      clear HA
      simp only [caravanref1_Crc.l0] at H
      by_cases c2 : x4_1 < (a0.size : Int)
      · rw [if_pos c2] at H
        have c2b0 : decide (x4_1 < (a0.size : Int)) = true := decide_eq_true c2
        clear c2
        by_cases c3 : 0 ≤ x4_1
        · rw [if_pos c3] at H
          have c3b0 : decide (0 ≤ x4_1) = true := decide_eq_true c3
          clear c3
          have H' := Aside0.mk H
          clear H
          have p4 : 0 ≤ (x4_1 : Int) := of_decide_eq_true (by first | (with_reducible assumption) | assumption)
          have q4 : x4_1 < (a0.size : Int) := of_decide_eq_true (by first | (with_reducible assumption) | assumption)
          have hx4 := bt_at a0 x4_1
          replace p4 := eq_true p4
          replace q4 := eq_true q4
          go_wp2
          go_loopg [3, 5] k1 (fun kq v3 v5 w' => ∃ (x3_2 : Int) (x5_2 : Int), v3 = .int .i64 x3_2 ∧ v5 = .int .i64 x5_2 ∧ Aside0 (caravanref1_Crc.l1 kq a0 x3_2 x4_1 x5_2 = some r) ∧ Aside0 (kq ≤ k1) ∧ Drawn0 w w')
          case atStart => exact ⟨(Go.bits .xor .i64 x3_1 (wrap64 ((wrap64 (bt a0 x4_1)) * 256))), (0), (by first | rfl | (simp; done) | (simp [*]; done)), (by first | rfl | (simp; done) | (simp [*]; done)), H', ⟨Nat.le_refl _⟩, by repeat (first | exact Drawn0.refl _ | apply Drawn0.step)⟩
          case round =>
            clear H'
            try clear c1
            try clear c2
            try clear c2b0
            try clear p2
            try clear c3
            try clear c3b0
            try clear p4
            try clear q4
            try clear hx4
            try clear p4
            try clear q4
            obtain ⟨x3_2, x5_2, rfl, rfl, HA, HK2, ⟨m2, rfl⟩⟩ := hrel
            cases gk with
            | zero => exact absurd HA.out (by simp [caravanref1_Crc.l1])
            | succ k2 =>
              have H := HA.out
              clear HA
              simp only [caravanref1_Crc.l1] at H
              by_cases c5 : x5_2 < 8
              · rw [if_pos c5] at H
                have c5b0 : decide (x5_2 < 8) = true := decide_eq_true c5
                clear c5
                by_cases c6 : (wrap64 (x3_2 * 2)) ≥ 65536
                · rw [if_pos c6] at H
                  have c6b0 : decide (65536 ≤ (wrap64 (x3_2 * 2))) = true := decide_eq_true c6
                  clear c6
                  have H' := Aside0.mk H
                  clear H
                  go_wp2
                  go_roundg k2
                  case measure => have := HK1.out; have := HK2.out; omega
                  case rel => exact ⟨(Go.bits .and .i64 (Go.bits .xor .i64 (wrap64 (x3_2 * 2)) 4129) 65535), (wrap64 (x5_2 + 1)), (by first | rfl | (simp; done) | (simp [*]; done)), (by first | rfl | (simp; done) | (simp [*]; done)), H', ⟨by have := HK1.out; have := HK2.out; omega⟩, by repeat (first | exact Drawn0.refl _ | apply Drawn0.step)⟩
                · rw [if_neg c6] at H
                  have c6b0 : decide (65536 ≤ (wrap64 (x3_2 * 2))) = false := decide_eq_false c6
                  clear c6
                  have H' := Aside0.mk H
                  clear H
                  go_wp2
                  go_roundg k2
                  case measure => have := HK1.out; have := HK2.out; omega
                  case rel => exact ⟨(wrap64 (x3_2 * 2)), (wrap64 (x5_2 + 1)), (by first | rfl | (simp; done) | (simp [*]; done)), (by first | rfl | (simp; done) | (simp [*]; done)), H', ⟨by have := HK1.out; have := HK2.out; omega⟩, by repeat (first | exact Drawn0.refl _ | apply Drawn0.step)⟩
              · rw [if_neg c5] at H
                have c5b0 : decide (x5_2 < 8) = false := decide_eq_false c5
                clear c5
                have H' := Aside0.mk H
                clear H
                go_wp2
                go_roundg k2
                case measure => have := HK1.out; have := HK2.out; omega
                case rel => exact ⟨(x3_2), (wrap64 (x4_1 + 1)), (by first | rfl | (simp; done) | (simp [*]; done)), (by first | rfl | (simp; done) | (simp [*]; done)), H', ⟨by have := HK1.out; have := HK2.out; omega⟩, by repeat (first | exact Drawn0.refl _ | apply Drawn0.step)⟩
        · rw [if_neg c3] at H
          exact absurd H (by simp)
      · rw [if_neg c2] at H
        have c2b0 : decide (x4_1 < (a0.size : Int)) = false := decide_eq_false c2
        clear c2
        obtain rfl := Option.some.inj H
        go_wp2
        go_ret
        exact ⟨by first | rfl | (simp; done) | (simp [*]; done), by repeat (first | exact Drawn0.refl _ | apply Drawn0.step)⟩

/-! ### bytealg_IndexByteString: function 28 -/
-- not needed by itself

/-! ### stringslite_IndexByte: function 24 -/
-- not needed by itself

/-! ### bytealg_IndexString: function 25 -/
-- not needed by itself

/-! ### bytealg_Cutover: function 26 -/
-- not needed by itself

/-! ### bytealg_hashStr_string: function 29 -/
-- not needed by itself

/-! ### bytealg_IndexRabinKarp_string: function 27 -/
-- not needed by itself

/-! ### stringslite_Index: function 23 -/
def stringslite_Index.f (a0 : ByteArray) (a1 : ByteArray) : Option (Int) := if a1.size = 1 then some (Lib.indexByte a0.data.toList (a1.data.toList.headD 0)) else none
theorem stringslite_Index.calls (a0 : ByteArray) (a1 : ByteArray) (r : Int) (w : World) (h : stringslite_Index.f a0 a1 = some r) :
    Calls Try.prog 23 #[.string a0, .string a1] w fun e w' => e = .returned (.int .i64 r) ∧ Drawn0 w w' := by
  unfold stringslite_Index.f at h
  by_cases c : a1.size = 1
  · rw [if_pos c] at h
    obtain rfl := Option.some.inj h
    obtain ⟨⟨l⟩⟩ := a1
    obtain ⟨b, rfl⟩ : ∃ b, l = [b] := List.length_eq_one_iff.mp c
    refine (Laid.stringslite_Index_one a0 b w).mono ?_
    rintro e w' ⟨rfl, rfl⟩
    exact ⟨rfl, Drawn0.refl _⟩
  · rw [if_neg c] at h
    cases h

/-! ### stringslite_Cut: function 21 -/
def stringslite_Cut.f (a0 : ByteArray) (a1 : ByteArray) : Option (ByteArray × ByteArray × Bool) := (stringslite_Index.f a0 a1).bind fun t102 => (if t102 ≥ 0 then (if 0 ≤ t102 then (if t102 ≤ (a0.size : Int) then (if 0 ≤ (wrap64 (t102 + (a1.size : Int))) then (if (wrap64 (t102 + (a1.size : Int))) ≤ (a0.size : Int) then (some (a0.extract 0 (t102 : Int).toNat, a0.extract ((wrap64 (t102 + (a1.size : Int))) : Int).toNat a0.size, true)) else (none)) else (none)) else (none)) else (none)) else (some (a0, (⟨#[]⟩ : ByteArray), false)))
set_option maxHeartbeats 8000000 in
set_option maxRecDepth 100000 in
theorem stringslite_Cut.calls (a0 : ByteArray) (a1 : ByteArray) (r1 : ByteArray) (r2 : ByteArray) (r3 : Bool) (w : World) (h : stringslite_Cut.f a0 a1 = some (r1, r2, r3)) :
    Calls Try.prog 21 #[.string a0, .string a1] w fun e w' => e = .returned (.tuple #[.string r1, .string r2, .bool r3]) ∧ Drawn0 w w' := by
  have H : ((stringslite_Index.f a0 a1).bind fun t102 => (if t102 ≥ 0 then (if 0 ≤ t102 then (if t102 ≤ (a0.size : Int) then (if 0 ≤ (wrap64 (t102 + (a1.size : Int))) then (if (wrap64 (t102 + (a1.size : Int))) ≤ (a0.size : Int) then (some (a0.extract 0 (t102 : Int).toNat, a0.extract ((wrap64 (t102 + (a1.size : Int))) : Int).toNat a0.size, true)) else (none)) else (none)) else (none)) else (none)) else (some (a0, (⟨#[]⟩ : ByteArray), false)))) = some (r1, r2, r3) := h
  clear h
  replace H := Option.bind_eq_some_iff.mp H
  obtain ⟨t102, A30, H⟩ := H
  replace H : (if t102 ≥ 0 then (if 0 ≤ t102 then (if t102 ≤ (a0.size : Int) then (if 0 ≤ (wrap64 (t102 + (a1.size : Int))) then (if (wrap64 (t102 + (a1.size : Int))) ≤ (a0.size : Int) then (some (a0.extract 0 (t102 : Int).toNat, a0.extract ((wrap64 (t102 + (a1.size : Int))) : Int).toNat a0.size, true)) else (none)) else (none)) else (none)) else (none)) else (some (a0, (⟨#[]⟩ : ByteArray), false))) = some (r1, r2, r3) := H
  have A3 := Aside0.mk A30
  clear A30
  by_cases c4 : t102 ≥ 0
  · rw [if_pos c4] at H
    have c4b0 : decide (0 ≤ t102) = true := decide_eq_true c4
    clear c4
    by_cases c5 : 0 ≤ t102
    · rw [if_pos c5] at H
      have c5b0 := eq_true c5
      have c5b1 : decide (0 ≤ t102) = true := decide_eq_true c5
      clear c5
      by_cases c6 : t102 ≤ (a0.size : Int)
      · rw [if_pos c6] at H
        have c6b0 := eq_true c6
        have c6b1 : decide (t102 ≤ (a0.size : Int)) = true := decide_eq_true c6
        clear c6
        obtain ⟨ji7, hji7⟩ : ∃ j_ : Int, (wrap64 (t102 + (a1.size : Int))) = j_ := ⟨_, rfl⟩
        replace H : (if 0 ≤ (ji7) then (if (ji7) ≤ (a0.size : Int) then (some (a0.extract 0 (t102 : Int).toNat, a0.extract ((ji7) : Int).toNat a0.size, true)) else (none)) else (none)) = some (r1, r2, r3) := by first | (rw [hji7] at H; exact H) | (simp only [hji7] at H ⊢; exact H)
        (try rw [hji7] at A3)
        have hji7w : (IntKind.i64.wrap (t102 + (a1.size : Int))) = ji7 := (i64_w _).trans hji7
        by_cases c8 : 0 ≤ (ji7)
        · rw [if_pos c8] at H
          have c8b0 := eq_true c8
          have c8b1 : decide (0 ≤ (ji7)) = true := decide_eq_true c8
          clear c8
          by_cases c9 : (ji7) ≤ (a0.size : Int)
          · rw [if_pos c9] at H
            have c9b0 := eq_true c9
            have c9b1 : decide ((ji7) ≤ (a0.size : Int)) = true := decide_eq_true c9
            clear c9
            simp only [Option.some.injEq, Prod.mk.injEq] at H
            obtain ⟨rfl, rfl, rfl⟩ := H
            go_enter Try.func21, Try.ntmps21
            go_wp2_with (first | (go_at_call 23; (with_reducible refine (stringslite_Index.calls a0 a1 t102 _ A3.out).mono ?_); rintro e w' ⟨rfl, ⟨nd, rfl⟩⟩; (try first | exact ⟨rfl, _, World.drewN_drewN _ _ _⟩ | exact ⟨rfl, _, Eq.trans (World.drewN_drewN _ _ _) (congrArg (World.drewN _) (Nat.add_assoc _ _ _))⟩)))
            repeat (go_quiet (first | (go_at_call 23; (with_reducible refine (stringslite_Index.calls a0 a1 t102 _ A3.out).mono ?_); rintro e w' ⟨rfl, ⟨nd, rfl⟩⟩; (try first | exact ⟨rfl, _, World.drewN_drewN _ _ _⟩ | exact ⟨rfl, _, Eq.trans (World.drewN_drewN _ _ _) (congrArg (World.drewN _) (Nat.add_assoc _ _ _))⟩))); try go_wp2_with (first | (go_at_call 23; (with_reducible refine (stringslite_Index.calls a0 a1 t102 _ A3.out).mono ?_); rintro e w' ⟨rfl, ⟨nd, rfl⟩⟩; (try first | exact ⟨rfl, _, World.drewN_drewN _ _ _⟩ | exact ⟨rfl, _, Eq.trans (World.drewN_drewN _ _ _) (congrArg (World.drewN _) (Nat.add_assoc _ _ _))⟩))))
            go_ret3
            exact ⟨by first | rfl | (simp; done) | (simp only [← hji7] <;> (first | rfl | simp)) | (simp [*]; done), by repeat (first | exact Drawn0.refl _ | apply Drawn0.step)⟩
          · rw [if_neg c9] at H
            exact absurd H (by simp)
        · rw [if_neg c8] at H
          exact absurd H (by simp)
      · rw [if_neg c6] at H
        exact absurd H (by simp)
    · rw [if_neg c5] at H
      exact absurd H (by simp)
  · rw [if_neg c4] at H
    have c4b0 : decide (0 ≤ t102) = false := decide_eq_false c4
    clear c4
    simp only [Option.some.injEq, Prod.mk.injEq] at H
    obtain ⟨rfl, rfl, rfl⟩ := H
    go_enter Try.func21, Try.ntmps21
    go_wp2_with (first | (go_at_call 23; (with_reducible refine (stringslite_Index.calls a0 a1 t102 _ A3.out).mono ?_); rintro e w' ⟨rfl, ⟨nd, rfl⟩⟩; (try first | exact ⟨rfl, _, World.drewN_drewN _ _ _⟩ | exact ⟨rfl, _, Eq.trans (World.drewN_drewN _ _ _) (congrArg (World.drewN _) (Nat.add_assoc _ _ _))⟩)))
    repeat (go_quiet (first | (go_at_call 23; (with_reducible refine (stringslite_Index.calls a0 a1 t102 _ A3.out).mono ?_); rintro e w' ⟨rfl, ⟨nd, rfl⟩⟩; (try first | exact ⟨rfl, _, World.drewN_drewN _ _ _⟩ | exact ⟨rfl, _, Eq.trans (World.drewN_drewN _ _ _) (congrArg (World.drewN _) (Nat.add_assoc _ _ _))⟩))); try go_wp2_with (first | (go_at_call 23; (with_reducible refine (stringslite_Index.calls a0 a1 t102 _ A3.out).mono ?_); rintro e w' ⟨rfl, ⟨nd, rfl⟩⟩; (try first | exact ⟨rfl, _, World.drewN_drewN _ _ _⟩ | exact ⟨rfl, _, Eq.trans (World.drewN_drewN _ _ _) (congrArg (World.drewN _) (Nat.add_assoc _ _ _))⟩))))
    go_ret3
    exact ⟨by first | rfl | (simp; done) | (simp [*]; done), by repeat (first | exact Drawn0.refl _ | apply Drawn0.step)⟩

/-! ### strings_Cut: function 18 -/
def strings_Cut.f (a0 : ByteArray) (a1 : ByteArray) : Option (ByteArray × ByteArray × Bool) := (stringslite_Cut.f a0 a1).bind fun bt103 => (some (bt103.1, bt103.2.1, bt103.2.2))
set_option maxHeartbeats 8000000 in
set_option maxRecDepth 100000 in
theorem strings_Cut.calls (a0 : ByteArray) (a1 : ByteArray) (r1 : ByteArray) (r2 : ByteArray) (r3 : Bool) (w : World) (h : strings_Cut.f a0 a1 = some (r1, r2, r3)) :
    Calls Try.prog 18 #[.string a0, .string a1] w fun e w' => e = .returned (.tuple #[.string r1, .string r2, .bool r3]) ∧ Drawn0 w w' := by
  have H : ((stringslite_Cut.f a0 a1).bind fun bt103 => (some (bt103.1, bt103.2.1, bt103.2.2))) = some (r1, r2, r3) := h
  clear h
  replace H := Option.bind_eq_some_iff.mp H
  obtain ⟨⟨t103, t104, t105⟩, A30, H⟩ := H
  replace H : (some (t103, t104, t105)) = some (r1, r2, r3) := H
  have A3 := Aside0.mk A30
  clear A30
  simp only [Option.some.injEq, Prod.mk.injEq] at H
  obtain ⟨rfl, rfl, rfl⟩ := H
  go_enter Try.func18, Try.ntmps18
  go_wp2_with (first | ((with_reducible refine gate_callee (f := 21) rfl ?_); refine goesL_ (some 9) rfl rfl Try.func21 (by kernel_rfl) rfl #[.string a0, .string a1] rfl (by (try simp only [List.map_toArray, List.map_cons, List.map_nil]); first | done | rfl | (simp only [List.length_drop, List.length_take]; rfl)) ?_; (with_reducible refine (stringslite_Cut.calls a0 a1 t103 t104 t105 _ A3.out).mono ?_); rintro e w' ⟨rfl, ⟨nd, rfl⟩⟩; refine ⟨_, rfl, ?_⟩))
  go_ret3
  exact ⟨by first | rfl | (simp; done) | (simp [*]; done), by repeat (first | exact Drawn0.refl _ | apply Drawn0.step)⟩

/-! ### slot_Tag: function 12 -/
def slot_Tag.f (a0 : ByteArray) : Option (ByteArray) := (strings_Cut.f a0 (⟨#[123]⟩ : ByteArray)).bind fun bt106 => ((strings_Cut.f bt106.2.1 (⟨#[125]⟩ : ByteArray)).bind fun bt109 => (if bt106.2.2 = true then (if bt109.2.2 = true then (if bt109.1.toList = ([] : List UInt8) then (some a0) else (some bt109.1)) else (some a0)) else (some a0)))
set_option maxHeartbeats 8000000 in
set_option maxRecDepth 100000 in
theorem slot_Tag.calls (a0 : ByteArray) (r : ByteArray) (w : World) (h : slot_Tag.f a0 = some r) :
    Calls Try.prog 12 #[.string a0] w fun e w' => e = .returned (.string r) ∧ Drawn0 w w' := by
  have H : ((strings_Cut.f a0 (⟨#[123]⟩ : ByteArray)).bind fun bt106 => ((strings_Cut.f bt106.2.1 (⟨#[125]⟩ : ByteArray)).bind fun bt109 => (if bt106.2.2 = true then (if bt109.2.2 = true then (if bt109.1.toList = ([] : List UInt8) then (some a0) else (some bt109.1)) else (some a0)) else (some a0)))) = some r := h
  clear h
  replace H := Option.bind_eq_some_iff.mp H
  obtain ⟨⟨t106, t107, t108⟩, A20, H⟩ := H
  replace H : ((strings_Cut.f t107 (⟨#[125]⟩ : ByteArray)).bind fun bt109 => (if t108 = true then (if bt109.2.2 = true then (if bt109.1.toList = ([] : List UInt8) then (some a0) else (some bt109.1)) else (some a0)) else (some a0))) = some r := H
  have A2 := Aside0.mk A20
  clear A20
  replace H := Option.bind_eq_some_iff.mp H
  obtain ⟨⟨t109, t110, t111⟩, A30, H⟩ := H
  replace H : (if t108 = true then (if t111 = true then (if t109.toList = ([] : List UInt8) then (some a0) else (some t109)) else (some a0)) else (some a0)) = some r := H
  have A3 := Aside0.mk A30
  clear A30
  by_cases c4 : t108 = true
  · subst c4
    have H1 : (if t111 = true then (if t109.toList = ([] : List UInt8) then (some a0) else (some t109)) else (some a0)) = some r := by rw [if_pos rfl] at H; exact H
    clear H
    have H := H1
    clear H1
    by_cases c5 : t111 = true
    · subst c5
      have H1 : (if t109.toList = ([] : List UInt8) then (some a0) else (some t109)) = some r := by rw [if_pos rfl] at H; exact H
      clear H
      have H := H1
      clear H1
      by_cases c6 : t109.toList = ([] : List UInt8)
      · rw [if_pos c6] at H
        have c6b0 : (t109.toList == ([] : List UInt8)) = true := beq_iff_eq.mpr c6
        have c6b1 : (t109.toList != ([] : List UInt8)) = false := bne_eq_false_iff_eq.mpr c6
        clear c6
        obtain rfl := Option.some.inj H
        go_enter Try.func12, Try.ntmps12
        go_wp2_with (first | ((with_reducible refine gate_callee (f := 18) rfl ?_); refine goesL_ (some 11) rfl rfl Try.func18 (by kernel_rfl) rfl #[.string a0, .string (⟨#[123]⟩ : ByteArray)] rfl (by (try simp only [List.map_toArray, List.map_cons, List.map_nil]); first | done | rfl | (simp only [List.length_drop, List.length_take]; rfl)) ?_; (with_reducible refine (strings_Cut.calls a0 (⟨#[123]⟩ : ByteArray) t106 t107 true _ A2.out).mono ?_); rintro e w' ⟨rfl, ⟨nd, rfl⟩⟩; refine ⟨_, rfl, ?_⟩) | ((with_reducible refine gate_callee (f := 18) rfl ?_); refine goesL_ (some 17) rfl rfl Try.func18 (by kernel_rfl) rfl #[.string t107, .string (⟨#[125]⟩ : ByteArray)] rfl (by (try simp only [List.map_toArray, List.map_cons, List.map_nil]); first | done | rfl | (simp only [List.length_drop, List.length_take]; rfl)) ?_; (with_reducible refine (strings_Cut.calls t107 (⟨#[125]⟩ : ByteArray) t109 t110 true _ A3.out).mono ?_); rintro e w' ⟨rfl, ⟨nd, rfl⟩⟩; refine ⟨_, rfl, ?_⟩))
        go_ret
        exact ⟨by first | rfl | (simp; done) | (simp [*]; done), by repeat (first | exact Drawn0.refl _ | apply Drawn0.step)⟩
      · rw [if_neg c6] at H
        have c6b0 : (t109.toList == ([] : List UInt8)) = false := beq_eq_false_iff_ne.mpr c6
        have c6b1 : (t109.toList != ([] : List UInt8)) = true := bne_iff_ne.mpr c6
        obtain rfl := Option.some.inj H
        go_enter Try.func12, Try.ntmps12
        go_wp2_with (first | ((with_reducible refine gate_callee (f := 18) rfl ?_); refine goesL_ (some 11) rfl rfl Try.func18 (by kernel_rfl) rfl #[.string a0, .string (⟨#[123]⟩ : ByteArray)] rfl (by (try simp only [List.map_toArray, List.map_cons, List.map_nil]); first | done | rfl | (simp only [List.length_drop, List.length_take]; rfl)) ?_; (with_reducible refine (strings_Cut.calls a0 (⟨#[123]⟩ : ByteArray) t106 t107 true _ A2.out).mono ?_); rintro e w' ⟨rfl, ⟨nd, rfl⟩⟩; refine ⟨_, rfl, ?_⟩) | ((with_reducible refine gate_callee (f := 18) rfl ?_); refine goesL_ (some 17) rfl rfl Try.func18 (by kernel_rfl) rfl #[.string t107, .string (⟨#[125]⟩ : ByteArray)] rfl (by (try simp only [List.map_toArray, List.map_cons, List.map_nil]); first | done | rfl | (simp only [List.length_drop, List.length_take]; rfl)) ?_; (with_reducible refine (strings_Cut.calls t107 (⟨#[125]⟩ : ByteArray) t109 t110 true _ A3.out).mono ?_); rintro e w' ⟨rfl, ⟨nd, rfl⟩⟩; refine ⟨_, rfl, ?_⟩))
        go_ret
        exact ⟨by first | rfl | (simp; done) | (simp [*]; done), by repeat (first | exact Drawn0.refl _ | apply Drawn0.step)⟩
    · replace c5 := Bool.eq_false_iff.mpr c5
      subst c5
      have H1 : (some a0) = some r := by rw [if_neg (show ¬ (false = true) by decide)] at H; exact H
      clear H
      have H := H1
      clear H1
      obtain rfl := Option.some.inj H
      go_enter Try.func12, Try.ntmps12
      go_wp2_with (first | ((with_reducible refine gate_callee (f := 18) rfl ?_); refine goesL_ (some 11) rfl rfl Try.func18 (by kernel_rfl) rfl #[.string a0, .string (⟨#[123]⟩ : ByteArray)] rfl (by (try simp only [List.map_toArray, List.map_cons, List.map_nil]); first | done | rfl | (simp only [List.length_drop, List.length_take]; rfl)) ?_; (with_reducible refine (strings_Cut.calls a0 (⟨#[123]⟩ : ByteArray) t106 t107 true _ A2.out).mono ?_); rintro e w' ⟨rfl, ⟨nd, rfl⟩⟩; refine ⟨_, rfl, ?_⟩) | ((with_reducible refine gate_callee (f := 18) rfl ?_); refine goesL_ (some 17) rfl rfl Try.func18 (by kernel_rfl) rfl #[.string t107, .string (⟨#[125]⟩ : ByteArray)] rfl (by (try simp only [List.map_toArray, List.map_cons, List.map_nil]); first | done | rfl | (simp only [List.length_drop, List.length_take]; rfl)) ?_; (with_reducible refine (strings_Cut.calls t107 (⟨#[125]⟩ : ByteArray) t109 t110 false _ A3.out).mono ?_); rintro e w' ⟨rfl, ⟨nd, rfl⟩⟩; refine ⟨_, rfl, ?_⟩))
      go_ret
      exact ⟨by first | rfl | (simp; done) | (simp [*]; done), by repeat (first | exact Drawn0.refl _ | apply Drawn0.step)⟩
  · replace c4 := Bool.eq_false_iff.mpr c4
    subst c4
    have H1 : (some a0) = some r := by rw [if_neg (show ¬ (false = true) by decide)] at H; exact H
    clear H
    have H := H1
    clear H1
    obtain rfl := Option.some.inj H
    go_enter Try.func12, Try.ntmps12
    go_wp2_with (first | ((with_reducible refine gate_callee (f := 18) rfl ?_); refine goesL_ (some 11) rfl rfl Try.func18 (by kernel_rfl) rfl #[.string a0, .string (⟨#[123]⟩ : ByteArray)] rfl (by (try simp only [List.map_toArray, List.map_cons, List.map_nil]); first | done | rfl | (simp only [List.length_drop, List.length_take]; rfl)) ?_; (with_reducible refine (strings_Cut.calls a0 (⟨#[123]⟩ : ByteArray) t106 t107 false _ A2.out).mono ?_); rintro e w' ⟨rfl, ⟨nd, rfl⟩⟩; refine ⟨_, rfl, ?_⟩) | ((with_reducible refine gate_callee (f := 18) rfl ?_); refine goesL_ (some 17) rfl rfl Try.func18 (by kernel_rfl) rfl #[.string t107, .string (⟨#[125]⟩ : ByteArray)] rfl (by (try simp only [List.map_toArray, List.map_cons, List.map_nil]); first | done | rfl | (simp only [List.length_drop, List.length_take]; rfl)) ?_; (with_reducible refine (strings_Cut.calls t107 (⟨#[125]⟩ : ByteArray) t109 t110 t111 _ A3.out).mono ?_); rintro e w' ⟨rfl, ⟨nd, rfl⟩⟩; refine ⟨_, rfl, ?_⟩))
    go_ret
    exact ⟨by first | rfl | (simp; done) | (simp [*]; done), by repeat (first | exact Drawn0.refl _ | apply Drawn0.step)⟩

/-! ### caravanref1_Tag: function 13 -/
mutual
def caravanref1_Tag.l0 : Nat → ByteArray → Int → Option (ByteArray)
  | 0, _, _ => none
  | k + 1, x0, x3 => if x3 < (x0.size : Int) then (if 0 ≤ x3 then (if (bt x0 x3) = 123 then (caravanref1_Tag.l1 k x0 x3 (wrap64 (x3 + 1))) else (caravanref1_Tag.l0 k x0 (wrap64 (x3 + 1)))) else (none)) else (some x0)
def caravanref1_Tag.l1 : Nat → ByteArray → Int → Int → Option (ByteArray)
  | 0, _, _, _ => none
  | k + 1, x0, x3, x4 => if x4 < (x0.size : Int) then (if 0 ≤ x4 then (if (bt x0 x4) = 125 then (if x4 = (wrap64 (x3 + 1)) then (some x0) else (if 0 ≤ (wrap64 (x3 + 1)) then (if (wrap64 (x3 + 1)) ≤ x4 then (if x4 ≤ (x0.size : Int) then (some (x0.extract ((wrap64 (x3 + 1)) : Int).toNat (x4 : Int).toNat)) else (none)) else (none)) else (none))) else (caravanref1_Tag.l1 k x0 x3 (wrap64 (x4 + 1)))) else (none)) else (some x0)
end
def caravanref1_Tag.f (k : Nat) (a0 : ByteArray) : Option (ByteArray) := caravanref1_Tag.l0 k a0 0
theorem caravanref1_Tag.mono_l : ∀ k, (∀ y0 y1, LeO (caravanref1_Tag.l0 k y0 y1) (caravanref1_Tag.l0 (k + 1) y0 y1)) ∧ (∀ y0 y1 y2, LeO (caravanref1_Tag.l1 k y0 y1 y2) (caravanref1_Tag.l1 (k + 1) y0 y1 y2))
  | 0 => ⟨fun _ _ r h => by simp [caravanref1_Tag.l0] at h, fun _ _ _ r h => by simp [caravanref1_Tag.l1] at h⟩
  | k + 1 => by
    obtain ⟨ih0, ih1⟩ := caravanref1_Tag.mono_l k
    refine ⟨?_, ?_⟩
    · intro y0 y1
      unfold caravanref1_Tag.l0
      repeat' first
      | (with_reducible exact ih0 _ _)
      | (with_reducible exact ih1 _ _ _)
      | (with_reducible exact LeO.refl _)
      | (with_reducible exact LeO.none _)
      | (with_reducible refine LeO.ite ?_ ?_)
      | (with_reducible refine LeO.bind ?_ (fun _ => ?_))
      | exact ih0 _ _
      | exact ih1 _ _ _
      | exact LeO.none _
      | refine LeO.ite ?_ ?_
      | refine LeO.bind ?_ (fun _ => ?_)
    · intro y0 y1 y2
      unfold caravanref1_Tag.l1
      repeat' first
      | (with_reducible exact ih0 _ _)
      | (with_reducible exact ih1 _ _ _)
      | (with_reducible exact LeO.refl _)
      | (with_reducible exact LeO.none _)
      | (with_reducible refine LeO.ite ?_ ?_)
      | (with_reducible refine LeO.bind ?_ (fun _ => ?_))
      | exact ih0 _ _
      | exact ih1 _ _ _
      | exact LeO.none _
      | refine LeO.ite ?_ ?_
      | refine LeO.bind ?_ (fun _ => ?_)
theorem caravanref1_Tag.mono : ∀ a0 k, LeO (caravanref1_Tag.f k a0) (caravanref1_Tag.f (k + 1) a0) := by
  intro a0 k
  obtain ⟨ih0, ih1⟩ := caravanref1_Tag.mono_l k
  unfold caravanref1_Tag.f
  repeat' first
      | (with_reducible exact ih0 _ _)
      | (with_reducible exact ih1 _ _ _)
      | (with_reducible exact LeO.refl _)
      | (with_reducible exact LeO.none _)
      | (with_reducible refine LeO.ite ?_ ?_)
      | (with_reducible refine LeO.bind ?_ (fun _ => ?_))
      | exact ih0 _ _
      | exact ih1 _ _ _
      | exact LeO.none _
      | refine LeO.ite ?_ ?_
      | refine LeO.bind ?_ (fun _ => ?_)
set_option maxHeartbeats 8000000 in
set_option maxRecDepth 100000 in
theorem caravanref1_Tag.calls (k : Nat) (a0 : ByteArray) (r : ByteArray) (w : World) (h : caravanref1_Tag.f k a0 = some r) :
    Calls Try.prog 13 #[.string a0] w fun e w' => e = .returned (.string r) ∧ Drawn0 w w' := by
  have H : (caravanref1_Tag.l0 k a0 0) = some r := h
  clear h
  have H' := Aside0.mk H
  clear H
  go_enter Try.func13, Try.ntmps13
  go_wp2
  go_loopg [3] k (fun kq v3 w' => ∃ (x3_1 : Int), v3 = .int .i64 x3_1 ∧ Aside0 (caravanref1_Tag.l0 kq a0 x3_1 = some r) ∧ Aside0 (kq ≤ k) ∧ Drawn0 w w')
  case atStart => exact ⟨(0), (by first | rfl | (simp; done) | (simp [*]; done)), H', ⟨Nat.le_refl _⟩, by repeat (first | exact Drawn0.refl _ | apply Drawn0.step)⟩
  case round =>
    clear H'
    try clear c1
    obtain ⟨x3_1, rfl, HA, HK1, ⟨m1, rfl⟩⟩ := hrel
    cases gk with
    | zero => exact absurd HA.out (by simp [caravanref1_Tag.l0])
    | succ k1 =>
      have H := HA.out
      clear HA
      simp only [caravanref1_Tag.l0] at H
      by_cases c2 : x3_1 < (a0.size : Int)
      · rw [if_pos c2] at H
        have c2b0 : decide (x3_1 < (a0.size : Int)) = true := decide_eq_true c2
        clear c2
        by_cases c3 : 0 ≤ x3_1
        · rw [if_pos c3] at H
          have c3b0 : decide (0 ≤ x3_1) = true := decide_eq_true c3
          clear c3
          by_cases c5 : (bt a0 x3_1) = 123
          · rw [if_pos c5] at H
            have c5b0 : ((bt a0 x3_1) == 123) = true := beq_iff_eq.mpr c5
            have c5b1 : ((bt a0 x3_1) != 123) = false := bne_eq_false_iff_eq.mpr c5
            clear c5
            have H' := Aside0.mk H
            clear H
            have p4 : 0 ≤ (x3_1 : Int) := of_decide_eq_true (by first | (with_reducible assumption) | assumption)
            have q4 : x3_1 < (a0.size : Int) := of_decide_eq_true (by first | (with_reducible assumption) | assumption)
            have hx4 := bt_at a0 x3_1
            replace p4 := eq_true p4
            replace q4 := eq_true q4
            go_wp2
            go_loopg [4] k1 (fun kq v4 w' => ∃ (x4_2 : Int), v4 = .int .i64 x4_2 ∧ Aside0 (caravanref1_Tag.l1 kq a0 x3_1 x4_2 = some r) ∧ Aside0 (kq ≤ k1) ∧ Drawn0 w w')
            case atStart => exact ⟨(wrap64 (x3_1 + 1)), (by first | rfl | (simp; done) | (simp [*]; done)), H', ⟨Nat.le_refl _⟩, by repeat (first | exact Drawn0.refl _ | apply Drawn0.step)⟩
            case round =>
              clear H'
              try clear c1
              try clear c2
              try clear c2b0
              try clear p2
              try clear c3
              try clear c3b0
              try clear p4
              try clear q4
              try clear hx4
              try clear c5
              try clear c5b0
              try clear c5b1
              try clear p4
              try clear q4
              obtain ⟨x4_2, rfl, HA, HK2, ⟨m2, rfl⟩⟩ := hrel
              cases gk with
              | zero => exact absurd HA.out (by simp [caravanref1_Tag.l1])
              | succ k2 =>
                have H := HA.out
                clear HA
                simp only [caravanref1_Tag.l1] at H
                by_cases c6 : x4_2 < (a0.size : Int)
                · rw [if_pos c6] at H
                  have c6b0 : decide (x4_2 < (a0.size : Int)) = true := decide_eq_true c6
                  clear c6
                  by_cases c7 : 0 ≤ x4_2
                  · rw [if_pos c7] at H
                    have c7b0 : decide (0 ≤ x4_2) = true := decide_eq_true c7
                    clear c7
                    by_cases c9 : (bt a0 x4_2) = 125
                    · rw [if_pos c9] at H
                      have c9b0 : ((bt a0 x4_2) == 125) = true := beq_iff_eq.mpr c9
                      have c9b1 : ((bt a0 x4_2) != 125) = false := bne_eq_false_iff_eq.mpr c9
                      clear c9
                      by_cases c10 : x4_2 = (wrap64 (x3_1 + 1))
                      · rw [if_pos c10] at H
                        have c10b0 : (x4_2 == (wrap64 (x3_1 + 1))) = true := beq_iff_eq.mpr c10
                        have c10b1 : (x4_2 != (wrap64 (x3_1 + 1))) = false := bne_eq_false_iff_eq.mpr c10
                        clear c10
                        obtain rfl := Option.some.inj H
                        have p8 : 0 ≤ (x4_2 : Int) := of_decide_eq_true (by first | (with_reducible assumption) | assumption)
                        have q8 : x4_2 < (a0.size : Int) := of_decide_eq_true (by first | (with_reducible assumption) | assumption)
                        have hx8 := bt_at a0 x4_2
                        replace p8 := eq_true p8
                        replace q8 := eq_true q8
                        go_wp2
                        go_ret
                        exact ⟨by first | rfl | (simp; done) | (simp [*]; done), by repeat (first | exact Drawn0.refl _ | apply Drawn0.step)⟩
                      · rw [if_neg c10] at H
                        have c10b0 : (x4_2 == (wrap64 (x3_1 + 1))) = false := beq_eq_false_iff_ne.mpr c10
                        have c10b1 : (x4_2 != (wrap64 (x3_1 + 1))) = true := bne_iff_ne.mpr c10
                        obtain ⟨ji11, hji11⟩ : ∃ j_ : Int, (wrap64 (x3_1 + 1)) = j_ := ⟨_, rfl⟩
                        replace H : (if 0 ≤ (ji11) then (if (ji11) ≤ x4_2 then (if x4_2 ≤ (a0.size : Int) then (some (a0.extract ((ji11) : Int).toNat (x4_2 : Int).toNat)) else (none)) else (none)) else (none)) = some r := by first | (rw [hji11] at H; exact H) | (simp only [hji11] at H ⊢; exact H)
                        (try rw [hji11] at c10b0)
                        (try rw [hji11] at c10b1)
                        have hji11w : (IntKind.i64.wrap (x3_1 + 1)) = ji11 := (i64_w _).trans hji11
                        by_cases c12 : 0 ≤ (ji11)
                        · rw [if_pos c12] at H
                          have c12b0 := eq_true c12
                          have c12b1 : decide (0 ≤ (ji11)) = true := decide_eq_true c12
                          clear c12
                          by_cases c13 : (ji11) ≤ x4_2
                          · rw [if_pos c13] at H
                            have c13b0 := eq_true c13
                            have c13b1 : decide ((ji11) ≤ x4_2) = true := decide_eq_true c13
                            clear c13
                            by_cases c14 : x4_2 ≤ (a0.size : Int)
                            · rw [if_pos c14] at H
                              have c14b0 := eq_true c14
                              have c14b1 : decide (x4_2 ≤ (a0.size : Int)) = true := decide_eq_true c14
                              clear c14
                              obtain rfl := Option.some.inj H
                              have p8 : 0 ≤ (x4_2 : Int) := of_decide_eq_true (by first | (with_reducible assumption) | assumption)
                              have q8 : x4_2 < (a0.size : Int) := of_decide_eq_true (by first | (with_reducible assumption) | assumption)
                              have hx8 := bt_at a0 x4_2
                              replace p8 := eq_true p8
                              replace q8 := eq_true q8
                              go_wp2
                              go_ret
                              exact ⟨by first | rfl | (simp; done) | (simp only [← hji11] <;> (first | rfl | simp)) | (simp [*]; done), by repeat (first | exact Drawn0.refl _ | apply Drawn0.step)⟩
                            · rw [if_neg c14] at H
                              exact absurd H (by simp)
                          · rw [if_neg c13] at H
                            exact absurd H (by simp)
                        · rw [if_neg c12] at H
                          exact absurd H (by simp)
                    · rw [if_neg c9] at H
                      have c9b0 : ((bt a0 x4_2) == 125) = false := beq_eq_false_iff_ne.mpr c9
                      have c9b1 : ((bt a0 x4_2) != 125) = true := bne_iff_ne.mpr c9
                      have H' := Aside0.mk H
                      clear H
                      have p8 : 0 ≤ (x4_2 : Int) := of_decide_eq_true (by first | (with_reducible assumption) | assumption)
                      have q8 : x4_2 < (a0.size : Int) := of_decide_eq_true (by first | (with_reducible assumption) | assumption)
                      have hx8 := bt_at a0 x4_2
                      replace p8 := eq_true p8
                      replace q8 := eq_true q8
                      go_wp2
                      go_roundg k2
                      case measure => have := HK1.out; have := HK2.out; omega
                      case rel => exact ⟨(wrap64 (x4_2 + 1)), (by first | rfl | (simp; done) | (simp [*]; done)), H', ⟨by have := HK1.out; have := HK2.out; omega⟩, by repeat (first | exact Drawn0.refl _ | apply Drawn0.step)⟩
                  · rw [if_neg c7] at H
                    exact absurd H (by simp)
                · rw [if_neg c6] at H
                  have c6b0 : decide (x4_2 < (a0.size : Int)) = false := decide_eq_false c6
                  clear c6
                  obtain rfl := Option.some.inj H
                  go_wp2
                  go_ret
                  exact ⟨by first | rfl | (simp; done) | (simp [*]; done), by repeat (first | exact Drawn0.refl _ | apply Drawn0.step)⟩
          · rw [if_neg c5] at H
            have c5b0 : ((bt a0 x3_1) == 123) = false := beq_eq_false_iff_ne.mpr c5
            have c5b1 : ((bt a0 x3_1) != 123) = true := bne_iff_ne.mpr c5
            have H' := Aside0.mk H
            clear H
            have p4 : 0 ≤ (x3_1 : Int) := of_decide_eq_true (by first | (with_reducible assumption) | assumption)
            have q4 : x3_1 < (a0.size : Int) := of_decide_eq_true (by first | (with_reducible assumption) | assumption)
            have hx4 := bt_at a0 x3_1
            replace p4 := eq_true p4
            replace q4 := eq_true q4
            go_wp2
            go_roundg k1
            case measure => have := HK1.out; omega
            case rel => exact ⟨(wrap64 (x3_1 + 1)), (by first | rfl | (simp; done) | (simp [*]; done)), H', ⟨by have := HK1.out; omega⟩, by repeat (first | exact Drawn0.refl _ | apply Drawn0.step)⟩
        · rw [if_neg c3] at H
          exact absurd H (by simp)
      · rw [if_neg c2] at H
        have c2b0 : decide (x3_1 < (a0.size : Int)) = false := decide_eq_false c2
        clear c2
        obtain rfl := Option.some.inj H
        go_wp2
        go_ret
        exact ⟨by first | rfl | (simp; done) | (simp [*]; done), by repeat (first | exact Drawn0.refl _ | apply Drawn0.step)⟩

/-! ### slot_Of: function 14 -/
def slot_Of.f (k : Nat) (a0 : ByteArray) : Option (Int) := (slot_Tag.f a0).bind fun t => (if t.size < 8796093022208 then ((slot_Crc.f k (bytesOf t)).bind fun c => (some (Int.tmod c 16384))) else (none))
theorem slot_Of.mono : ∀ a0 k, LeO (slot_Of.f k a0) (slot_Of.f (k + 1) a0) := by
  intro a0 k
  unfold slot_Of.f
  exact LeO.bind (LeO.refl _) (fun _ => LeO.ite (LeO.bind (slot_Crc.mono _ _) (fun _ => LeO.refl _)) (LeO.refl _))
/-- Crc of a text's bytes, as they were laid just now. -/
theorem crc_of (k : Nat) (t : ByteArray) (c : Int) (W : World) (B : Nat) (hB : B = W.heap.size) (ht : t.size < 8796093022208) (h : slot_Crc.f k (bytesOf t) = some c) :
    Calls Try.prog 10 #[.slice (some ⟨B, 0, none⟩) t.size (grownCap W t.size 0 5)] (Lib.bytesWorld W 5 t) fun e w' => e = .returned (.int .i64 c) ∧ Drawn0 (Lib.bytesWorld W 5 t) w' := by
  subst hB
  have hr : Kd.C (Kd.int .u8) (Lib.bytesWorld W 5 t) (some ⟨W.heap.size, 0, none⟩) t.size (bytesOf t) := Kd.C_of_reads (enc := Value.int .u8) (d := (0 : Int)) (h1 := fun _ => rfl) (bytes_reads W 5 t (by omega))
  have h2 := slot_Crc.calls k (some ⟨W.heap.size, 0, none⟩) (grownCap W t.size 0 5) (bytesOf t) c (Lib.bytesWorld W 5 t) (by rw [bytesOf_length]; exact hr) (by rw [bytesOf_length]; exact Go.grownCap_ge W t.size 0 5) h
  rw [bytesOf_length] at h2
  exact h2
theorem slot_Of.calls (k : Nat) (a0 : ByteArray) (r : Int) (w : World) (h : slot_Of.f k a0 = some r) :
    Calls Try.prog 14 #[.string a0] w fun e w' => e = .returned (.int .i64 r) ∧ Below w.heap.size w w' := by
  unfold slot_Of.f at h
  obtain ⟨t, A10, H⟩ := Option.bind_eq_some_iff.mp h
  have A1 := Aside0.mk A10
  clear A10 h
  by_cases ct : t.size < 8796093022208
  · rw [if_pos ct] at H
    obtain ⟨c, A20, H⟩ := Option.bind_eq_some_iff.mp H
    obtain rfl := Option.some.inj H
    have A2 := Aside0.mk A20
    have CT := Aside0.mk ct
    clear A20 H ct
    have kb := fun W s => print_bytes (P := Try.prog) 9 22 5 Try.underlying9 Try.underlying22 Try.underlying5 s W
    go_enter Try.func14, Try.ntmps14
    go_wp2_with (first | (go_at_call 12; refine (slot_Tag.calls a0 t _ A1.out).mono ?_; rintro e w1 ⟨rfl, ⟨m, rfl⟩⟩) | (go_at_call 10; refine (crc_of k t c _ _ (by rfl) CT.out A2.out).mono ?_; rintro e w2 ⟨rfl, ⟨m2, rfl⟩⟩))
    go_ret
    exact ⟨by first | rfl | simp, by repeat (first | exact Below.refl _ _ | apply pw_below_drewN | (refine bytes_below ?_ (by simp) _ _))⟩
  · rw [if_neg ct] at H
    cases H

/-! ### caravanref1_Slot: function 15 -/
def caravanref1_Slot.f (k : Nat) (a0 : ByteArray) : Option (Int) := (caravanref1_Tag.f k a0).bind fun t112 => ((caravanref1_Crc.f k t112).bind fun t113 => (some (Int.tmod t113 16384)))
theorem caravanref1_Slot.mono : ∀ a0 k, LeO (caravanref1_Slot.f k a0) (caravanref1_Slot.f (k + 1) a0) := by
  intro a0 k
  unfold caravanref1_Slot.f
  repeat' first
      | (with_reducible exact caravanref1_Crc.mono _ _)
      | (with_reducible exact caravanref1_Tag.mono _ _)
      | (with_reducible exact LeO.refl _)
      | (with_reducible exact LeO.none _)
      | (with_reducible refine LeO.ite ?_ ?_)
      | (with_reducible refine LeO.bind ?_ (fun _ => ?_))
      | exact caravanref1_Crc.mono _ _
      | exact caravanref1_Tag.mono _ _
      | exact LeO.none _
      | refine LeO.ite ?_ ?_
      | refine LeO.bind ?_ (fun _ => ?_)
set_option maxHeartbeats 8000000 in
set_option maxRecDepth 100000 in
theorem caravanref1_Slot.calls (k : Nat) (a0 : ByteArray) (r : Int) (w : World) (h : caravanref1_Slot.f k a0 = some r) :
    Calls Try.prog 15 #[.string a0] w fun e w' => e = .returned (.int .i64 r) ∧ Drawn0 w w' := by
  have H : ((caravanref1_Tag.f k a0).bind fun t112 => ((caravanref1_Crc.f k t112).bind fun t113 => (some (Int.tmod t113 16384)))) = some r := h
  clear h
  replace H := Option.bind_eq_some_iff.mp H
  obtain ⟨t112, A20, H⟩ := H
  replace H : ((caravanref1_Crc.f k t112).bind fun t113 => (some (Int.tmod t113 16384))) = some r := H
  have A2 := Aside0.mk A20
  clear A20
  replace H := Option.bind_eq_some_iff.mp H
  obtain ⟨t113, A30, H⟩ := H
  replace H : (some (Int.tmod t113 16384)) = some r := H
  have A3 := Aside0.mk A30
  clear A30
  obtain rfl := Option.some.inj H
  go_enter Try.func15, Try.ntmps15
  go_wp2_with (first | ((with_reducible refine gate_callee (f := 13) rfl ?_); refine goesL_ (some 4) rfl rfl Try.func13 (by kernel_rfl) rfl #[.string a0] rfl (by (try simp only [List.map_toArray, List.map_cons, List.map_nil]); first | done | rfl | (simp only [List.length_drop, List.length_take]; rfl)) ?_; (with_reducible refine (caravanref1_Tag.calls k a0 t112 _ A2.out).mono ?_); rintro e w' ⟨rfl, ⟨nd, rfl⟩⟩; refine ⟨_, rfl, ?_⟩) | ((with_reducible refine gate_callee (f := 11) rfl ?_); refine goesL_ (some 5) rfl rfl Try.func11 (by kernel_rfl) rfl #[.string t112] rfl (by (try simp only [List.map_toArray, List.map_cons, List.map_nil]); first | done | rfl | (simp only [List.length_drop, List.length_take]; rfl)) ?_; (with_reducible refine (caravanref1_Crc.calls k t112 t113 _ A3.out).mono ?_); rintro e w' ⟨rfl, ⟨nd, rfl⟩⟩; refine ⟨_, rfl, ?_⟩))
  go_ret
  exact ⟨by first | rfl | (simp; done) | (simp [*]; done), by repeat (first | exact Drawn0.refl _ | apply Drawn0.step)⟩

-- NOT PRINTED: function 4 (caravanlaw1_SlotAll)

-- NOT PRINTED: function 5 (caravanlaw1_SlotKnown)

/-! ### slices_IndexFunc_string_string: function 22 -/
-- not needed by itself

/-! ### slices_ContainsFunc_string_string: function 19 -/
-- not needed by itself

end Go.Proofs.Ytgbncimfkjfjcaa.SX

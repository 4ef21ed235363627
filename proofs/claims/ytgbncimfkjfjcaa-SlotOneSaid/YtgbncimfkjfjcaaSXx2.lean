/- The machine side of a law: what Go functions compute, as Lean functions, and the proofs of it. Conditions: none. (Written by wip/myprint.py of this session's repo.) -/
import Derived.Test.YtgbncimfkjfjcaaSXx0
import Derived.Test.YtgbncimfkjfjcaaSXx1
namespace Go.Proofs.Ytgbncimfkjfjcaa.SX
open Go.RowKit Go.Proofs.YtgbncimfkjfjcaaW.PrintWords Go.Proofs.YtgbncimfkjfjcaaW.PrintLast Go.Proofs.YtgbncimfkjfjcaaW.PrintMore
attribute [local go_sem] max2_int min2_int max_two min_two max_three min_three max_four min_four   -- for this text's walks alone
set_option linter.unusedVariables false
set_option linter.unusedSimpArgs false

/-! ### slot_One: function 16 -/
def slot_One.scan (k : Nat) : List ByteArray → Int → Option Bool
  | [], _ => some false
  | s :: r, n => (slot_Of.f k s).bind fun m => if m = n then slot_One.scan k r n else some true
theorem slot_One.scan_mono (k : Nat) : ∀ l n, LeO (slot_One.scan k l n) (slot_One.scan (k + 1) l n)
  | [], _ => LeO.refl _
  | s :: r, n => by
    have ih := slot_One.scan_mono k r n
    unfold slot_One.scan
    exact LeO.bind (slot_Of.mono _ _) (fun _ => LeO.ite ih (LeO.refl _))
def slot_One.f (k : Nat) (l0 : List ByteArray) : Option (Int × Bool) := if l0.length = 0 then some (0, false) else (if l0.length < 8796093022208 then ((slot_Of.f k (l0[0]?.getD ByteArray.empty)).bind fun n => ((slot_One.scan k l0 n).bind fun b => (if b = true then some (0, false) else some (n, true)))) else none)
theorem slot_One.mono : ∀ a0 k, LeO (slot_One.f k a0) (slot_One.f (k + 1) a0) := by
  intro a0 k
  unfold slot_One.f
  exact LeO.ite (LeO.refl _) (LeO.ite (LeO.bind (slot_Of.mono _ _) (fun _ => LeO.bind (slot_One.scan_mono k _ _) (fun _ => LeO.refl _))) (LeO.refl _))
theorem keepS {n : Int} {B : Nat} {W w1 w2 : World} (hc : w1.cell? ⟨B, 0, none⟩ = some (.int .i64 n)) (h1 : Below W.heap.size W w1) (hB : B < W.heap.size) (hb : Below w1.heap.size w1 w2) : w2.cell? ⟨B, 0, none⟩ = some (.int .i64 n) ∧ Below W.heap.size W w2 :=
  ⟨(hb.cell (p := ⟨B, 0, none⟩) (Nat.lt_of_lt_of_le hB h1.size)).trans hc, h1.trans (hb.mono h1.size)⟩
theorem keepS' {n : Int} {B : Nat} {W w1 w2 : World} (h : w1.cell? ⟨B, 0, none⟩ = some (.int .i64 n) ∧ Below W.heap.size W w1) (hB : B < W.heap.size) (hb : Below w1.heap.size w1 w2) : w2.cell? ⟨B, 0, none⟩ = some (.int .i64 n) ∧ Below W.heap.size W w2 :=
  keepS h.1 h.2 hB hb
set_option maxHeartbeats 4000000 in
/-- The function handed to ContainsFunc: is this key's slot another one? -/
theorem one1 (k : Nat) (n m : Int) (B : Nat) (s : ByteArray) (W : World) (hB : B < W.heap.size) (hc : W.cell? ⟨B, 0, none⟩ = some (.int .i64 n)) (h : slot_Of.f k s = some m) :
    Calls Try.prog 20 #[.string s, .pointer (some ⟨B, 0, none⟩)] W fun e w' => e = .returned (.bool (m != n)) ∧ Below W.heap.size W w' := by
  have H := Aside0.mk h
  have HB := Aside0.mk hB
  clear h hB
  go_enter Try.func20, Try.ntmps20
  go_wp2
  go_region_held3 (fun w' => w'.cell? ⟨B, 0, none⟩ = some (.int .i64 n) ∧ Below W.heap.size W w') (first | (exact ⟨by simpa using hc, (Below.refl _ _).drew⟩) | assumption) (first | (go_at_call 14; refine (slot_Of.calls k s m _ H.out).mono ?_; rintro e w1 ⟨rfl, hb⟩; have hkeep := keepS' (by assumption) HB.out hb; clear hb))
  go_wp2
  go_ret
  exact ⟨rfl, hkeep.2⟩
/-- The text at a place. -/
theorem text_at {w : World} {A : Option Addr} {zs : List ByteArray} (h : Kd.string.C w A zs.length zs) (k : Nat) (hk : k < zs.length) :
    ∃ ad s, A = some ad ∧ w.cell? (ad.add k) = some (.string s) ∧ zs[k]? = some s := by
  obtain ⟨ad, rfl, hc⟩ := Kd.at_string h (k : Int) (by omega) (by omega)
  refine ⟨ad, zs[k]?.getD ByteArray.empty, rfl, ?_, by rw [List.getElem?_eq_getElem hk]; rfl⟩
  rw [Int.toNat_natCast] at hc
  rw [hc]
  unfold rdOf
  rw [Int.toNat_natCast, List.getD_eq_getElem?_getD]
set_option maxHeartbeats 4000000 in
set_option maxRecDepth 100000 in
/-- IndexFunc, with that function: is there a key of another slot? -/
theorem one_idx (k : Nat) (n : Int) (B : Nat) (A : Option Addr) (c : Nat) (l : List ByteArray) (b : Bool) (w : World) (hB : B < w.heap.size) (hc : w.cell? ⟨B, 0, none⟩ = some (.int .i64 n)) (hr : Kd.C Kd.string w A l.length l) (hl : l.length < 8796093022208) (h : slot_One.scan k l n = some b) :
    Calls Try.prog 22 #[.slice A l.length c, .func (.func 20) #[] #[.pointer (some ⟨B, 0, none⟩)]] w fun e w' => (∃ i : Int, e = .returned (.int .i64 i) ∧ decide (i ≥ 0) = b) ∧ Below w.heap.size w w' := by
  have HB := Aside0.mk hB
  have HC := Aside0.mk hc
  have HR := Aside0.mk hr
  have HL := Aside0.mk hl
  have H := Aside0.mk h
  clear hB hc hr hl h
  go_enter Try.func22, Try.ntmps22
  go_wp2
  go_loopg [5, 8] (l.length + 1) (fun gg _ s8 wr => ∃ kk : Nat, kk ≤ l.length ∧ l.length + 1 - kk ≤ gg ∧ s8 = .int .i64 (kk : Int) ∧ Aside0 (Below w.heap.size w wr) ∧ Aside0 (slot_One.scan k (l.drop kk) n = some b))
  case atStart => exact ⟨0, Nat.zero_le _, by omega, rfl, ⟨Below.refl _ w⟩, ⟨by rw [List.drop_zero]; exact H.out⟩⟩
  case round =>
    obtain ⟨kk, hkk, hg, rfl, BW, SC⟩ := hrel
    clear H
    by_cases hlt : kk < l.length
    · obtain ⟨ad, s, rfl, hcell, hs⟩ := text_at (Kd.C_below HR.out BW.out) kk hlt
      have hd : l.drop kk = s :: l.drop (kk + 1) := by rw [List.drop_eq_getElem_cons hlt]; rw [List.getElem?_eq_getElem hlt] at hs; rw [Option.some.inj hs]
      have h2 := SC.out
      rw [hd] at h2
      unfold slot_One.scan at h2
      obtain ⟨m, hm, h3⟩ := Option.bind_eq_some_iff.mp h2
      have hcB : wr.cell? ⟨B, 0, none⟩ = some (.int .i64 n) := (BW.out.cell (p := ⟨B, 0, none⟩) HB.out).trans HC.out
      have hcall := one1 k n m B s wr (Nat.lt_of_lt_of_le HB.out BW.out.size) hcB hm
      have hltz : (kk : Int) < (l.length : Int) := by omega
      have hlt0 : (0 : Int) ≤ (kk : Int) := by omega
      have hw1 : Aside0 (wrap64 ((kk : Int) + 1) = ((kk + 1 : Nat) : Int)) := ⟨by have := HL.out; unfold wrap64; omega⟩
      have HG := Aside0.mk hg
      have HS := Aside0.mk hs
      have HLT := Aside0.mk hlt
      clear hd h2 hm hcB hg hs hlt hkk
      by_cases he : m = n
      · rw [if_pos he] at h3
        have hf : (m != n) = false := by simp [he]
        rw [hf] at hcall
        have H3 := Aside0.mk h3
        have HCA := Aside0.mk hcall
        clear h3 hcall hf he
        go_wp2_with (first | (go_at_call 20; refine HCA.out.mono ?_; rintro e w2 ⟨rfl, hb⟩) | (go_at_fn 20; refine HCA.out.mono ?_; rintro e w2 ⟨rfl, hb⟩))
        go_roundg (gk - 1)
        case measure => have := HG.out; have := HLT.out; omega
        case rel => exact ⟨kk + 1, HLT.out, by have := HG.out; have := HLT.out; omega, by first | rfl | (rw [hw1.out]) | (simp [hw1.out]), ⟨BW.out.trans (hb.mono BW.out.size)⟩, H3⟩
      · rw [if_neg he] at h3
        have hf : (m != n) = true := by simp [he]
        rw [hf] at hcall
        obtain rfl := Option.some.inj h3
        have HCA := Aside0.mk hcall
        clear h3 hcall hf he
        go_wp2_with (first | (go_at_call 20; refine HCA.out.mono ?_; rintro e w2 ⟨rfl, hb⟩) | (go_at_fn 20; refine HCA.out.mono ?_; rintro e w2 ⟨rfl, hb⟩))
        go_ret
        exact ⟨⟨(kk : Int), by first | rfl | simp, decide_eq_true hlt0⟩, BW.out.trans (hb.mono BW.out.size)⟩
    · obtain rfl : kk = l.length := by omega
      have h2 := SC.out
      rw [List.drop_length] at h2
      obtain rfl := Option.some.inj h2
      clear h2 SC hg hkk hlt
      have hltz : ¬ ((l.length : Int) < (l.length : Int)) := by omega
      go_wp2
      go_ret
      exact ⟨⟨-1, by first | rfl | simp, by decide⟩, BW.out⟩
set_option maxHeartbeats 4000000 in
/-- ContainsFunc, with that function. -/
theorem one_any (k : Nat) (n : Int) (B : Nat) (A : Option Addr) (c : Nat) (l : List ByteArray) (b : Bool) (w : World) (hB : B < w.heap.size) (hc : w.cell? ⟨B, 0, none⟩ = some (.int .i64 n)) (hr : Kd.C Kd.string w A l.length l) (hl : l.length < 8796093022208) (h : slot_One.scan k l n = some b) :
    Calls Try.prog 19 #[.slice A l.length c, .func (.func 20) #[] #[.pointer (some ⟨B, 0, none⟩)]] w fun e w' => e = .returned (.bool b) ∧ Below w.heap.size w w' := by
  have HX := Aside0.mk (one_idx k n B A c l b w hB hc hr hl h)
  clear hB hc hr hl h
  go_enter Try.func19, Try.ntmps19
  go_wp2_with (go_at_call 22; refine HX.out.mono ?_; rintro e w2 ⟨⟨i, rfl, hi⟩, hb⟩)
  go_ret
  exact ⟨by first | (rw [← hi]; rfl) | (simp [← hi]), hb⟩
set_option maxHeartbeats 8000000 in
set_option maxRecDepth 100000 in
theorem slot_One.calls (k : Nat) (A0 : Option Addr) (c0 : Nat) (l0 : List ByteArray) (r1 : Int) (r2 : Bool) (w : World) (hr0 : Kd.C Kd.string w A0 l0.length l0) (hc0 : l0.length ≤ c0) (h : slot_One.f k l0 = some (r1, r2)) :
    Calls Try.prog 16 #[.slice A0 l0.length c0] w fun e w' => e = .returned (.tuple #[.int .i64 r1, .bool r2]) ∧ Below w.heap.size w w' := by
  unfold slot_One.f at h
  by_cases h0 : l0.length = 0
  · rw [if_pos h0] at h
    obtain ⟨rfl, rfl⟩ := Prod.mk.inj (Option.some.inj h)
    clear h hr0 hc0
    have hz : ((l0.length : Int) == 0) = true := by rw [h0]; rfl
    have hz2 : (l0.length : Int) = 0 := by omega
    go_enter Try.func16, Try.ntmps16
    go_wp2
    go_ret2
    exact ⟨by first | rfl | simp, Below.refl _ _⟩
  · rw [if_neg h0] at h
    by_cases hl : l0.length < 8796093022208
    · rw [if_pos hl] at h
      obtain ⟨n, hn, H⟩ := Option.bind_eq_some_iff.mp h
      obtain ⟨b, hb, H⟩ := Option.bind_eq_some_iff.mp H
      obtain ⟨ad, s, rfl, hcell, hs⟩ := text_at hr0 0 (by omega)
      have hcell0 : w.cell? ad = some (.string s) := by
        have e : ad.add 0 = ad := by unfold Addr.add; split <;> simp_all
        rwa [e] at hcell
      rw [hs] at hn
      have HN := Aside0.mk hn
      have HS := Aside0.mk hb
      have HR := Aside0.mk hr0
      have HL := Aside0.mk hl
      have hz : ((l0.length : Int) == 0) = false := beq_eq_false_iff_ne.mpr (by omega)
      have hz2 : ¬ (l0.length : Int) = 0 := by omega
      have hp : (0 : Int) < (l0.length : Int) := by omega
      have hne : ∀ w1 : World, (w1.alloc (Obj.cells #[Value.int IntKind.i64 n] 3)).cell? ⟨w1.heap.size, 0, none⟩ = some (.int .i64 n) := fun w1 => by simp
      have HNE := Aside0.mk hne
      clear h hn hb hr0 hc0 hl hcell hne
      cases b with
      | true =>
        rw [if_pos rfl] at H
        obtain ⟨rfl, rfl⟩ := Prod.mk.inj (Option.some.inj H)
        clear H
        go_enter Try.func16, Try.ntmps16
        go_wp2_with (first | (go_at_call 14; refine (slot_Of.calls k s n _ HN.out).mono ?_; rintro e w1 ⟨rfl, hb1⟩) | (go_at_call 19; refine (one_any k n _ _ _ l0 true _ (by simp) (HNE.out _) (Kd.C_alloc (Kd.C_below HR.out hb1) _) HL.out HS.out).mono ?_; rintro e w3 ⟨rfl, hb3⟩))
        go_ret2
        exact ⟨by first | rfl | simp, (Below.alloc hb1 hb1.size _).trans (hb3.mono (by simp; exact Nat.le_succ_of_le hb1.size))⟩
      | false =>
        rw [if_neg Bool.false_ne_true] at H
        obtain ⟨rfl, rfl⟩ := Prod.mk.inj (Option.some.inj H)
        clear H
        go_enter Try.func16, Try.ntmps16
        go_wp2_with (first | (go_at_call 14; refine (slot_Of.calls k s n _ HN.out).mono ?_; rintro e w1 ⟨rfl, hb1⟩) | (go_at_call 19; refine (one_any k n _ _ _ l0 false _ (by simp) (HNE.out _) (Kd.C_alloc (Kd.C_below HR.out hb1) _) HL.out HS.out).mono ?_; rintro e w3 ⟨rfl, hb3⟩; have hc3 : w3.cell? ⟨w1.heap.size, 0, none⟩ = some (.int .i64 n) := (hb3.cell (p := ⟨w1.heap.size, 0, none⟩) (by simp)).trans (HNE.out w1)))
        go_ret2
        exact ⟨by first | rfl | simp, (Below.alloc hb1 hb1.size _).trans (hb3.mono (by simp; exact Nat.le_succ_of_le hb1.size))⟩
    · rw [if_neg hl] at h
      cases h

/-! ### caravanref1_One: function 17 -/
def caravanref1_One.l0 : Nat → List ByteArray → Int → Int → Option (Int)
  | 0, _, _, _ => none
  | k + 1, x0, x3, x4 => if x4 < (x0.length : Int) then (if 0 ≤ x4 then ((caravanref1_Slot.f k (rdOf ByteArray.empty x0 x4)).bind fun t124 => (if t124 = x3 then (caravanref1_One.l0 k x0 x3 (wrap64 (x4 + 1))) else (some (-1)))) else (none)) else (some x3)
def caravanref1_One.f (k : Nat) (l0 : List ByteArray) : Option (Int) := if (l0.length : Int) = 0 then (some (-1)) else (if 0 < (l0.length : Int) then ((caravanref1_Slot.f k (rdOf ByteArray.empty l0 0)).bind fun t122 => (caravanref1_One.l0 k l0 t122 1)) else (none))
theorem caravanref1_One.mono_l : ∀ k, (∀ y0 y1 y2, LeO (caravanref1_One.l0 k y0 y1 y2) (caravanref1_One.l0 (k + 1) y0 y1 y2))
  | 0 => fun _ _ _ r h => by simp [caravanref1_One.l0] at h
  | k + 1 => by
    have ih0 := caravanref1_One.mono_l k
    · intro y0 y1 y2
      unfold caravanref1_One.l0
      repeat' first
      | (with_reducible exact ih0 _ _ _)
      | (with_reducible exact caravanref1_Slot.mono _ _)
      | (with_reducible exact LeO.refl _)
      | (with_reducible exact LeO.none _)
      | (with_reducible refine LeO.ite ?_ ?_)
      | (with_reducible refine LeO.bind ?_ (fun _ => ?_))
      | exact ih0 _ _ _
      | exact caravanref1_Slot.mono _ _
      | exact LeO.none _
      | refine LeO.ite ?_ ?_
      | refine LeO.bind ?_ (fun _ => ?_)
theorem caravanref1_One.mono : ∀ a0 k, LeO (caravanref1_One.f k a0) (caravanref1_One.f (k + 1) a0) := by
  intro a0 k
  have ih0 := caravanref1_One.mono_l k
  unfold caravanref1_One.f
  repeat' first
      | (with_reducible exact ih0 _ _ _)
      | (with_reducible exact caravanref1_Slot.mono _ _)
      | (with_reducible exact LeO.refl _)
      | (with_reducible exact LeO.none _)
      | (with_reducible refine LeO.ite ?_ ?_)
      | (with_reducible refine LeO.bind ?_ (fun _ => ?_))
      | exact ih0 _ _ _
      | exact caravanref1_Slot.mono _ _
      | exact LeO.none _
      | refine LeO.ite ?_ ?_
      | refine LeO.bind ?_ (fun _ => ?_)
set_option maxHeartbeats 8000000 in
set_option maxRecDepth 100000 in
theorem caravanref1_One.calls (k : Nat) (A0 : Option Addr) (c0 : Nat) (l0 : List ByteArray) (r : Int) (w : World) (hr0 : Kd.C Kd.string w A0 l0.length l0) (hc0 : l0.length ≤ c0) (h : caravanref1_One.f k l0 = some r) :
    Calls Try.prog 17 #[.slice A0 l0.length c0] w fun e w' => e = .returned (.int .i64 r) ∧ Drawn0 w w' := by
  have HR0 := Aside0.mk hr0
  have HC0 := Aside0.mk hc0
  clear hr0 hc0
  have H : (if (l0.length : Int) = 0 then (some (-1)) else (if 0 < (l0.length : Int) then ((caravanref1_Slot.f k (rdOf ByteArray.empty l0 0)).bind fun t122 => (caravanref1_One.l0 k l0 t122 1)) else (none))) = some r := h
  clear h
  by_cases c2 : (l0.length : Int) = 0
  · rw [if_pos c2] at H
    have c2b0 : ((l0.length : Int) == 0) = true := beq_iff_eq.mpr c2
    have c2b1 : ((l0.length : Int) != 0) = false := bne_eq_false_iff_eq.mpr c2
    clear c2
    obtain rfl := Option.some.inj H
    go_enter Try.func17, Try.ntmps17
    go_wp2
    go_ret
    exact ⟨by first | rfl | (simp; done) | (simp [*]; done), by repeat (first | exact Drawn0.refl _ | apply Drawn0.step)⟩
  · rw [if_neg c2] at H
    have c2b0 : ((l0.length : Int) == 0) = false := beq_eq_false_iff_ne.mpr c2
    have c2b1 : ((l0.length : Int) != 0) = true := bne_iff_ne.mpr c2
    have c2b2 : ¬ (l0 = []) := fun h_ => c2 (by rw [h_]; rfl)
    by_cases c3 : 0 < (l0.length : Int)
    · rw [if_pos c3] at H
      have c3b0 : decide (0 < (l0.length : Int)) = true := decide_eq_true c3
      have c3b1 : decide (0 < l0.length) = true := decide_eq_true (by omega)
      clear c3
      replace H := Option.bind_eq_some_iff.mp H
      obtain ⟨t122, A40, H⟩ := H
      replace H : (caravanref1_One.l0 k l0 t122 1) = some r := H
      have A4 := Aside0.mk A40
      clear A40
      have H' := Aside0.mk H
      clear H
      have p121 : 0 ≤ (0 : Int) := (by omega)
      have q121 : 0 < (l0.length : Int) := of_decide_eq_true (by first | (with_reducible assumption) | assumption)
      obtain ⟨ad121, e121, hx121_0⟩ := Kd.at_string HR0.out 0 p121 q121
      cases e121
      have qi121 : (0 < l0.length) = True := eq_true (by omega)
      (try rw [show ((0 : Int)).toNat = 0 from rfl] at hx121_0)
      (try rw [Addr.add_zero'] at hx121_0)
      replace p121 := eq_true p121
      replace q121 := eq_true q121
      go_enter Try.func17, Try.ntmps17
      go_wp2_with (first | ((with_reducible refine gate_callee (f := 15) rfl ?_); refine goesL_ (some 11) rfl rfl Try.func15 (by kernel_rfl) rfl #[.string (rdOf ByteArray.empty l0 0)] rfl (by (try simp only [List.map_toArray, List.map_cons, List.map_nil]); first | done | rfl | (simp only [List.length_drop, List.length_take]; rfl)) ?_; (with_reducible refine (caravanref1_Slot.calls k (rdOf ByteArray.empty l0 0) t122 _ A4.out).mono ?_); rintro e w' ⟨rfl, ⟨nd, rfl⟩⟩; refine ⟨_, rfl, ?_⟩))
      go_loopg [4] k (fun kq v4 w' => ∃ (x4_1 : Int), v4 = .int .i64 x4_1 ∧ Aside0 (caravanref1_One.l0 kq l0 t122 x4_1 = some r) ∧ Aside0 (kq ≤ k) ∧ Drawn0 w w')
      case atStart => exact ⟨(1), (by first | rfl | (simp; done) | (simp [*]; done)), H', ⟨Nat.le_refl _⟩, by repeat (first | exact Drawn0.refl _ | apply Drawn0.step)⟩
      case round =>
        clear H'
        try clear c1
        try clear p1
        try clear q1
        try clear hx1
        try clear qi1
        try clear c2
        try clear c2b0
        try clear c2b1
        try clear c2b2
        try clear p2
        try clear c3
        try clear c3b0
        try clear c3b1
        try clear hx121_0
        try clear p121
        try clear q121
        obtain ⟨x4_1, rfl, HA, HK1, ⟨m1, rfl⟩⟩ := hrel
        cases gk with
        | zero => exact absurd HA.out (by simp [caravanref1_One.l0])
        | succ k1 =>
          have H := HA.out
          clear HA
          simp only [caravanref1_One.l0] at H
          by_cases c5 : x4_1 < (l0.length : Int)
          · rw [if_pos c5] at H
            have c5b0 : decide (x4_1 < (l0.length : Int)) = true := decide_eq_true c5
            clear c5
            by_cases c6 : 0 ≤ x4_1
            · rw [if_pos c6] at H
              have c6b0 : decide (0 ≤ x4_1) = true := decide_eq_true c6
              clear c6
              replace H := Option.bind_eq_some_iff.mp H
              obtain ⟨t124, A70, H⟩ := H
              replace H : (if t124 = t122 then (caravanref1_One.l0 k1 l0 t122 (wrap64 (x4_1 + 1))) else (some (-1))) = some r := H
              have A7 := Aside0.mk A70
              clear A70
              by_cases c8 : t124 = t122
              · rw [if_pos c8] at H
                have c8b0 : (t124 == t122) = true := beq_iff_eq.mpr c8
                have c8b1 : (t124 != t122) = false := bne_eq_false_iff_eq.mpr c8
                clear c8
                have H' := Aside0.mk H
                clear H
                have p123 : 0 ≤ (x4_1 : Int) := of_decide_eq_true (by first | (with_reducible assumption) | assumption)
                have q123 : x4_1 < (l0.length : Int) := of_decide_eq_true (by first | (with_reducible assumption) | assumption)
                obtain ⟨ad123, e123, hx123_0⟩ := Kd.at_string HR0.out x4_1 p123 q123
                obtain rfl : ad121 = ad123 := (by injection e123)
                replace p123 := eq_true p123
                replace q123 := eq_true q123
                go_wp2_with (first | ((with_reducible refine gate_callee (f := 15) rfl ?_); refine goesL_ (some 22) rfl rfl Try.func15 (by kernel_rfl) rfl #[.string (rdOf ByteArray.empty l0 x4_1)] rfl (by (try simp only [List.map_toArray, List.map_cons, List.map_nil]); first | done | rfl | (simp only [List.length_drop, List.length_take]; rfl)) ?_; (with_reducible refine (caravanref1_Slot.calls k1 (rdOf ByteArray.empty l0 x4_1) t124 _ A7.out).mono ?_); rintro e w' ⟨rfl, ⟨nd, rfl⟩⟩; refine ⟨_, rfl, ?_⟩))
                go_roundg k1
                case measure => have := HK1.out; omega
                case rel => exact ⟨(wrap64 (x4_1 + 1)), (by first | rfl | (simp; done) | (simp [*]; done)), H', ⟨by have := HK1.out; omega⟩, by repeat (first | exact Drawn0.refl _ | apply Drawn0.step)⟩
              · rw [if_neg c8] at H
                have c8b0 : (t124 == t122) = false := beq_eq_false_iff_ne.mpr c8
                have c8b1 : (t124 != t122) = true := bne_iff_ne.mpr c8
                obtain rfl := Option.some.inj H
                have p123 : 0 ≤ (x4_1 : Int) := of_decide_eq_true (by first | (with_reducible assumption) | assumption)
                have q123 : x4_1 < (l0.length : Int) := of_decide_eq_true (by first | (with_reducible assumption) | assumption)
                obtain ⟨ad123, e123, hx123_0⟩ := Kd.at_string HR0.out x4_1 p123 q123
                obtain rfl : ad121 = ad123 := (by injection e123)
                replace p123 := eq_true p123
                replace q123 := eq_true q123
                go_wp2_with (first | ((with_reducible refine gate_callee (f := 15) rfl ?_); refine goesL_ (some 22) rfl rfl Try.func15 (by kernel_rfl) rfl #[.string (rdOf ByteArray.empty l0 x4_1)] rfl (by (try simp only [List.map_toArray, List.map_cons, List.map_nil]); first | done | rfl | (simp only [List.length_drop, List.length_take]; rfl)) ?_; (with_reducible refine (caravanref1_Slot.calls k1 (rdOf ByteArray.empty l0 x4_1) t124 _ A7.out).mono ?_); rintro e w' ⟨rfl, ⟨nd, rfl⟩⟩; refine ⟨_, rfl, ?_⟩))
                go_ret
                exact ⟨by first | rfl | (simp; done) | (simp [*]; done), by repeat (first | exact Drawn0.refl _ | apply Drawn0.step)⟩
            · rw [if_neg c6] at H
              exact absurd H (by simp)
          · rw [if_neg c5] at H
            have c5b0 : decide (x4_1 < (l0.length : Int)) = false := decide_eq_false c5
            clear c5
            obtain rfl := Option.some.inj H
            go_wp2
            go_ret
            exact ⟨by first | rfl | (simp; done) | (simp [*]; done), by repeat (first | exact Drawn0.refl _ | apply Drawn0.step)⟩
    · rw [if_neg c3] at H
      exact absurd H (by simp)

/-! ### caravanlaw1_SlotOne: function 6 -/
def caravanlaw1_SlotOne.l0 : Nat → List ByteArray → Int → Option (Bool)
  | 0, _, _ => none
  | k + 1, x0, x3 => if x3 < (x0.length : Int) then (if 0 ≤ x3 then (if ((rdOf ByteArray.empty x0 x3).size : Int) > 200 then ((caravanlaw1_awake.f k).bind fun t127 => (some t127)) else (caravanlaw1_SlotOne.l0 k x0 (wrap64 (x3 + 1)))) else (none)) else ((slot_One.f k x0).bind fun bt128 => ((caravanref1_One.f k x0).bind fun t130 => (if (bt128.2 == (decide (t130 ≥ 0))) = true then (if bt128.1 = (mx 0 t130) then ((caravanlaw1_awake.f k).bind fun t131 => (some t131)) else (none)) else (none))))
def caravanlaw1_SlotOne.f (k : Nat) (l0 : List ByteArray) : Option (Bool) := if (l0.length : Int) > 50 then ((caravanlaw1_awake.f k).bind fun t125 => (some t125)) else (caravanlaw1_SlotOne.l0 k l0 0)
theorem caravanlaw1_SlotOne.mono_l : ∀ k, (∀ y0 y1, LeO (caravanlaw1_SlotOne.l0 k y0 y1) (caravanlaw1_SlotOne.l0 (k + 1) y0 y1))
  | 0 => fun _ _ r h => by simp [caravanlaw1_SlotOne.l0] at h
  | k + 1 => by
    have ih0 := caravanlaw1_SlotOne.mono_l k
    · intro y0 y1
      unfold caravanlaw1_SlotOne.l0
      repeat' first
      | (with_reducible exact ih0 _ _)
      | (with_reducible exact caravanlaw1_awake.mono _)
      | (with_reducible exact caravanref1_One.mono _ _)
      | (with_reducible exact slot_One.mono _ _)
      | (with_reducible exact LeO.refl _)
      | (with_reducible exact LeO.none _)
      | (with_reducible refine LeO.ite ?_ ?_)
      | (with_reducible refine LeO.bind ?_ (fun _ => ?_))
      | exact ih0 _ _
      | exact caravanlaw1_awake.mono _
      | exact caravanref1_One.mono _ _
      | exact slot_One.mono _ _
      | exact LeO.none _
      | refine LeO.ite ?_ ?_
      | refine LeO.bind ?_ (fun _ => ?_)
theorem caravanlaw1_SlotOne.mono : ∀ a0 k, LeO (caravanlaw1_SlotOne.f k a0) (caravanlaw1_SlotOne.f (k + 1) a0) := by
  intro a0 k
  have ih0 := caravanlaw1_SlotOne.mono_l k
  unfold caravanlaw1_SlotOne.f
  repeat' first
      | (with_reducible exact ih0 _ _)
      | (with_reducible exact caravanlaw1_awake.mono _)
      | (with_reducible exact caravanref1_One.mono _ _)
      | (with_reducible exact slot_One.mono _ _)
      | (with_reducible exact LeO.refl _)
      | (with_reducible exact LeO.none _)
      | (with_reducible refine LeO.ite ?_ ?_)
      | (with_reducible refine LeO.bind ?_ (fun _ => ?_))
      | exact ih0 _ _
      | exact caravanlaw1_awake.mono _
      | exact caravanref1_One.mono _ _
      | exact slot_One.mono _ _
      | exact LeO.none _
      | refine LeO.ite ?_ ?_
      | refine LeO.bind ?_ (fun _ => ?_)
set_option maxHeartbeats 8000000 in
set_option maxRecDepth 100000 in
theorem caravanlaw1_SlotOne.calls (k : Nat) (A0 : Option Addr) (c0 : Nat) (l0 : List ByteArray) (r : Bool) (w : World) (hr0 : Kd.C Kd.string w A0 l0.length l0) (hc0 : l0.length ≤ c0) (h : caravanlaw1_SlotOne.f k l0 = some r) :
    Calls Try.prog 6 #[.slice A0 l0.length c0] w fun e w' => e = .returned (.bool r) ∧ Below w.heap.size w w' := by
  have HR0 := Aside0.mk hr0
  have HC0 := Aside0.mk hc0
  clear hr0 hc0
  have HB := Aside0.mk (Below.refl w.heap.size w)
  have H : (if (l0.length : Int) > 50 then ((caravanlaw1_awake.f k).bind fun t125 => (some t125)) else (caravanlaw1_SlotOne.l0 k l0 0)) = some r := h
  clear h
  by_cases c2 : (l0.length : Int) > 50
  · rw [if_pos c2] at H
    have c2b0 : decide (50 < (l0.length : Int)) = true := decide_eq_true c2
    have c2b1 : decide (50 < l0.length) = true := decide_eq_true (by omega)
    clear c2
    replace H := Option.bind_eq_some_iff.mp H
    obtain ⟨t125, A30, H⟩ := H
    replace H : (some t125) = some r := H
    have A3 := Aside0.mk A30
    clear A30
    obtain rfl := Option.some.inj H
    go_enter Try.func6, Try.ntmps6
    go_wp2_with (first | ((with_reducible refine gate_callee (f := 9) rfl ?_); refine goesL_ (some 10) rfl rfl Try.func9 (by kernel_rfl) rfl #[] rfl (by (try simp only [List.map_toArray, List.map_cons, List.map_nil]); first | done | rfl | (simp only [List.length_drop, List.length_take]; rfl)) ?_; (with_reducible refine (caravanlaw1_awake.calls k  t125 _ A3.out).mono ?_); rintro e w4 ⟨rfl, hb⟩; refine ⟨_, rfl, ?_⟩; have n0_ := Aside0.mk (below_step (by repeat (first | (with_reducible first | exact HB.out | apply below_alloc | apply pw_below_drewN | apply below_drew1) | exact HB.out)) hb); clear HB; have HB := n0_; clear n0_; (try clear hb); (try clear hb2); (try clear hk); (try clear hi)))
    go_ret
    exact ⟨by first | rfl | (simp [errW_none, errW_some] <;> rfl) | (simp [*, errW_none, errW_some] <;> rfl), by repeat (first | (with_reducible first | exact HB.out | apply below_alloc | apply pw_below_drewN | apply below_drew1) | exact HB.out)⟩
  · rw [if_neg c2] at H
    have c2b0 : decide (50 < (l0.length : Int)) = false := decide_eq_false c2
    have c2b1 : decide (50 < l0.length) = false := decide_eq_false (by omega)
    clear c2
    have H' := Aside0.mk H
    clear H
    go_enter Try.func6, Try.ntmps6
    go_wp2
    go_loopg [3] k (fun kq v3 w' => ∃ (x3_1 : Int), v3 = .int .i64 x3_1 ∧ Aside0 (caravanlaw1_SlotOne.l0 kq l0 x3_1 = some r) ∧ Aside0 (kq ≤ k) ∧ Aside0 (Below w.heap.size w w'))
    case atStart => exact ⟨(0), (by first | rfl | (simp; done) | (simp [*]; done)), H', ⟨Nat.le_refl _⟩, ⟨by repeat (first | (with_reducible first | exact HB.out | apply below_alloc | apply pw_below_drewN | apply below_drew1) | exact HB.out)⟩⟩
    case round =>
      clear H'
      try clear c2
      try clear c2b0
      try clear c2b1
      try clear p2
      obtain ⟨x3_1, rfl, HA, HK1, HB⟩ := hrel
      cases gk with
      | zero => exact absurd HA.out (by simp [caravanlaw1_SlotOne.l0])
      | succ k1 =>
        have H := HA.out
        clear HA
        simp only [caravanlaw1_SlotOne.l0] at H
        by_cases c5 : x3_1 < (l0.length : Int)
        · rw [if_pos c5] at H
          have c5b0 : decide (x3_1 < (l0.length : Int)) = true := decide_eq_true c5
          clear c5
          by_cases c6 : 0 ≤ x3_1
          · rw [if_pos c6] at H
            have c6b0 : decide (0 ≤ x3_1) = true := decide_eq_true c6
            clear c6
            by_cases c7 : ((rdOf ByteArray.empty l0 x3_1).size : Int) > 200
            · rw [if_pos c7] at H
              have c7b0 : decide (200 < ((rdOf ByteArray.empty l0 x3_1).size : Int)) = true := decide_eq_true c7
              have c7b1 : decide (200 < (rdOf ByteArray.empty l0 x3_1).size) = true := decide_eq_true (by omega)
              clear c7
              replace H := Option.bind_eq_some_iff.mp H
              obtain ⟨t127, A80, H⟩ := H
              replace H : (some t127) = some r := H
              have A8 := Aside0.mk A80
              clear A80
              obtain rfl := Option.some.inj H
              have p126 : 0 ≤ (x3_1 : Int) := of_decide_eq_true (by first | (with_reducible assumption) | assumption)
              have q126 : x3_1 < (l0.length : Int) := of_decide_eq_true (by first | (with_reducible assumption) | assumption)
              obtain ⟨ad126, e126, hx126_0⟩ := Kd.at_string HR0.out x3_1 p126 q126
              cases e126
              replace hx126_0 := (HB.out.cell (World.block_lt_of_cell? w _ hx126_0)).trans hx126_0
              replace p126 := eq_true p126
              replace q126 := eq_true q126
              go_wp2_with (first | ((with_reducible refine gate_callee (f := 9) rfl ?_); refine goesL_ (some 23) rfl rfl Try.func9 (by kernel_rfl) rfl #[] rfl (by (try simp only [List.map_toArray, List.map_cons, List.map_nil]); first | done | rfl | (simp only [List.length_drop, List.length_take]; rfl)) ?_; (with_reducible refine (caravanlaw1_awake.calls k1  t127 _ A8.out).mono ?_); rintro e w9 ⟨rfl, hb⟩; refine ⟨_, rfl, ?_⟩; have n0_ := Aside0.mk (below_step (by repeat (first | (with_reducible first | exact HB.out | apply below_alloc | apply pw_below_drewN | apply below_drew1) | exact HB.out)) hb); clear HB; have HB := n0_; clear n0_; (try clear hb); (try clear hb2); (try clear hk); (try clear hi)))
              go_ret
              exact ⟨by first | rfl | (simp [errW_none, errW_some] <;> rfl) | (simp [*, errW_none, errW_some] <;> rfl), by repeat (first | (with_reducible first | exact HB.out | apply below_alloc | apply pw_below_drewN | apply below_drew1) | exact HB.out)⟩
            · rw [if_neg c7] at H
              have c7b0 : decide (200 < ((rdOf ByteArray.empty l0 x3_1).size : Int)) = false := decide_eq_false c7
              have c7b1 : decide (200 < (rdOf ByteArray.empty l0 x3_1).size) = false := decide_eq_false (by omega)
              clear c7
              have H' := Aside0.mk H
              clear H
              have p126 : 0 ≤ (x3_1 : Int) := of_decide_eq_true (by first | (with_reducible assumption) | assumption)
              have q126 : x3_1 < (l0.length : Int) := of_decide_eq_true (by first | (with_reducible assumption) | assumption)
              obtain ⟨ad126, e126, hx126_0⟩ := Kd.at_string HR0.out x3_1 p126 q126
              cases e126
              replace hx126_0 := (HB.out.cell (World.block_lt_of_cell? w _ hx126_0)).trans hx126_0
              replace p126 := eq_true p126
              replace q126 := eq_true q126
              go_wp2
              go_roundg k1
              case measure => have := HK1.out; omega
              case rel => exact ⟨(wrap64 (x3_1 + 1)), (by first | rfl | (simp; done) | (simp [*]; done)), H', ⟨by have := HK1.out; omega⟩, ⟨by repeat (first | (with_reducible first | exact HB.out | apply below_alloc | apply pw_below_drewN | apply below_drew1) | exact HB.out)⟩⟩
          · rw [if_neg c6] at H
            exact absurd H (by simp)
        · rw [if_neg c5] at H
          have c5b0 : decide (x3_1 < (l0.length : Int)) = false := decide_eq_false c5
          clear c5
          replace H := Option.bind_eq_some_iff.mp H
          obtain ⟨⟨t128, t129⟩, A100, H⟩ := H
          replace H : ((caravanref1_One.f k1 l0).bind fun t130 => (if (t129 == (decide (t130 ≥ 0))) = true then (if t128 = (mx 0 t130) then ((caravanlaw1_awake.f k1).bind fun t131 => (some t131)) else (none)) else (none))) = some r := H
          have A10 := Aside0.mk A100
          clear A100
          replace H := Option.bind_eq_some_iff.mp H
          obtain ⟨t130, A110, H⟩ := H
          replace H : (if (t129 == (decide (t130 ≥ 0))) = true then (if t128 = (mx 0 t130) then ((caravanlaw1_awake.f k1).bind fun t131 => (some t131)) else (none)) else (none)) = some r := H
          have A11 := Aside0.mk A110
          clear A110
          by_cases c12 : (t129 == (decide (t130 ≥ 0))) = true
          · rw [if_pos c12] at H
            have c12b0 : (t129 == (decide (t130 ≥ 0))) = true := c12
            (try (have c12b1 : decide (t129 = (decide (t130 ≥ 0))) = true := by simpa using c12))
            (try (have c12b2 : (t129 == (decide (t130 ≥ 0))) = true := by simpa using c12))
            clear c12
            obtain ⟨ji13, hji13⟩ : ∃ j_ : Int, (mx 0 t130) = j_ := ⟨_, rfl⟩
            replace H : (if t128 = (ji13) then ((caravanlaw1_awake.f k1).bind fun t131 => (some t131)) else (none)) = some r := by first | (rw [hji13] at H; exact H) | (simp only [hji13] at H ⊢; exact H)
            (try rw [hji13] at A10)
            (try rw [hji13] at A11)
            (try (have hji13l : 0 ≤ ji13 := by (rw [← hji13]; unfold mx; (repeat' split) <;> omega)))
            (try (have hji13m : 0 ≤ ji13 := by omega))
            have hji13_ : (if 0 < t130 then t130 else 0) = ji13 := hji13
            by_cases c14 : t128 = (ji13)
            · rw [if_pos c14] at H
              have c14b0 : (t128 == (ji13)) = true := beq_iff_eq.mpr c14
              have c14b1 : (t128 != (ji13)) = false := bne_eq_false_iff_eq.mpr c14
              clear c14
              replace H := Option.bind_eq_some_iff.mp H
              obtain ⟨t131, A150, H⟩ := H
              replace H : (some t131) = some r := H
              have A15 := Aside0.mk A150
              clear A150
              obtain rfl := Option.some.inj H
              go_wp2_with (first | ((with_reducible refine gate_callee (f := 16) rfl ?_); refine goesL_ (some 26) rfl rfl Try.func16 (by kernel_rfl) rfl #[.slice A0 l0.length c0] rfl (by (try simp only [List.map_toArray, List.map_cons, List.map_nil]); first | done | rfl | (simp only [List.length_drop, List.length_take]; rfl)) ?_; (with_reducible refine (slot_One.calls k1 _ _ l0 t128 t129 _ ?side1 ?side2 A10.out).mono ?_); (case side1 => repeat (first | exact (Kd.C_below HR0.out HB.out) | (with_reducible refine Kd.C_alloc ?_ _) | (with_reducible refine Kd.C_drewN ?_ _) | (with_reducible refine Kd.C_drew ?_))); (case side2 => exact HC0.out); rintro e w16 ⟨rfl, hb⟩; refine ⟨_, rfl, ?_⟩; have n0_ := Aside0.mk (below_step (by repeat (first | (with_reducible first | exact HB.out | apply below_alloc | apply pw_below_drewN | apply below_drew1) | exact HB.out)) hb); clear HB; have HB := n0_; clear n0_; (try clear hb); (try clear hb2); (try clear hk); (try clear hi)) | ((with_reducible refine gate_callee (f := 17) rfl ?_); refine goesL_ (some 30) rfl rfl Try.func17 (by kernel_rfl) rfl #[.slice A0 l0.length c0] rfl (by (try simp only [List.map_toArray, List.map_cons, List.map_nil]); first | done | rfl | (simp only [List.length_drop, List.length_take]; rfl)) ?_; (with_reducible refine (caravanref1_One.calls k1 _ _ l0 t130 _ ?side1 ?side2 A11.out).mono ?_); (case side1 => repeat (first | exact (Kd.C_below HR0.out HB.out) | (with_reducible refine Kd.C_alloc ?_ _) | (with_reducible refine Kd.C_drewN ?_ _) | (with_reducible refine Kd.C_drew ?_))); (case side2 => exact HC0.out); rintro e w' ⟨rfl, ⟨nd, rfl⟩⟩; refine ⟨_, rfl, ?_⟩) | ((with_reducible refine gate_dst (N := 42) rfl ?_); (try (refine gate_guard (by rfl) ?_; dsimp only)); (try (refine gate_guard (by rfl) ?_; dsimp only)); refine goesL_ (some 42) rfl rfl Try.func9 (by kernel_rfl) rfl #[] rfl (by (try simp only [List.map_toArray, List.map_cons, List.map_nil]); first | done | rfl | (simp only [List.length_drop, List.length_take]; rfl)) ?_; (with_reducible refine (caravanlaw1_awake.calls k1  t131 _ A15.out).mono ?_); rintro e w17 ⟨rfl, hb⟩; refine ⟨_, rfl, ?_⟩; have n0_ := Aside0.mk (below_step (by repeat (first | (with_reducible first | exact HB.out | apply below_alloc | apply pw_below_drewN | apply below_drew1) | exact HB.out)) hb); clear HB; have HB := n0_; clear n0_; (try clear hb); (try clear hb2); (try clear hk); (try clear hi)))
              go_ret
              exact ⟨by first | rfl | (simp [errW_none, errW_some] <;> rfl) | (simp only [← hji13]; first | rfl | (simp [errW_none, errW_some] <;> rfl)) | (simp [*, errW_none, errW_some] <;> rfl), by repeat (first | (with_reducible first | exact HB.out | apply below_alloc | apply pw_below_drewN | apply below_drew1) | exact HB.out)⟩
            · rw [if_neg c14] at H
              exact absurd H (by simp)
          · rw [if_neg c12] at H
            exact absurd H (by simp)

end Go.Proofs.Ytgbncimfkjfjcaa.SX

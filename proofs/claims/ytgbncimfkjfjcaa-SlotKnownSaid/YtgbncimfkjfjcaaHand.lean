/-
  The walks of the laws SlotAll and SlotKnown, by hand. Conditions: the texts that their rows hand them.
-/
import Derived.Test.YtgbncimfkjfjcaaSXx0
import Derived.Test.YtgbncimfkjfjcaaSXx1
import Derived.Test.YtgbncimfkjfjcaaSXx2
namespace Go.Proofs.Ytgbncimfkjfjcaa.SX
open Go.RowKit Go.Proofs.YtgbncimfkjfjcaaW.PrintWords Go.Proofs.YtgbncimfkjfjcaaW.PrintLast Go.Proofs.YtgbncimfkjfjcaaW.PrintMore
attribute [local go_sem] max2_int min2_int max_two min_two max_three min_three max_four min_four   -- for this text's walks alone
set_option linter.unusedVariables false
set_option linter.unusedSimpArgs false

set_option maxHeartbeats 4000000 in
set_option maxRecDepth 100000 in
/-- The law SlotAll, where both tell the same. -/
theorem all_walk (k : Nat) (key t : ByteArray) (c n : Int) (hs : key.size ≤ 1000) (h1 : slot_Crc.f k (bytesOf key) = some c) (h2 : caravanref1_Crc.f k key = some c) (h3 : slot_Tag.f key = some t) (h4 : caravanref1_Tag.f k key = some t)
    (h5 : slot_Of.f k key = some n) (h6 : caravanref1_Slot.f k key = some n) (h7 : caravanlaw1_awake.f k = some true) (w : World) :
    Calls Try.prog 4 #[.string key] w fun e w' => e = .returned (.bool true) ∧ Below w.heap.size w w' := by
  have H1 := Aside0.mk h1
  have H2 := Aside0.mk h2
  have H3 := Aside0.mk h3
  have H4 := Aside0.mk h4
  have H5 := Aside0.mk h5
  have H6 := Aside0.mk h6
  have H7 := Aside0.mk h7
  have CT := Aside0.mk (show key.size < 8796093022208 by omega)
  have g0 : decide ((key.size : Int) > 1000) = false := decide_eq_false (by omega)
  clear h1 h2 h3 h4 h5 h6 h7 hs
  have kb := fun W s => print_bytes (P := Try.prog) 9 22 5 Try.underlying9 Try.underlying22 Try.underlying5 s W
  go_enter Try.func4, Try.ntmps4
  go_wp2_with (first | (go_at_call 10; refine (crc_of k key c _ _ (by rfl) CT.out H1.out).mono ?_; rintro e w1 ⟨rfl, ⟨m1, rfl⟩⟩) | (go_at_call 11; refine (caravanref1_Crc.calls k key c _ H2.out).mono ?_; rintro e w2 ⟨rfl, ⟨m2, rfl⟩⟩) | (go_at_call 12; refine (slot_Tag.calls key t _ H3.out).mono ?_; rintro e w3 ⟨rfl, ⟨m3, rfl⟩⟩) | (go_at_call 13; refine (caravanref1_Tag.calls k key t _ H4.out).mono ?_; rintro e w4 ⟨rfl, ⟨m4, rfl⟩⟩) | (go_at_call 14; refine (slot_Of.calls k key n _ H5.out).mono ?_; rintro e w5 ⟨rfl, hb5⟩) | (go_at_call 15; refine (caravanref1_Slot.calls k key n _ H6.out).mono ?_; rintro e w6 ⟨rfl, ⟨m6, rfl⟩⟩) | (go_at_call 9; refine (caravanlaw1_awake.calls k true _ H7.out).mono ?_; rintro e w7 ⟨rfl, hb7⟩))
  go_ret
  refine ⟨rfl, ?_⟩
  have b1 := pw_below_drewN (bytes_below (Below.refl w.heap.size w) (Nat.le_refl _) 5 key) (m1 + m2 + m3 + m4)
  have b2 := b1.trans (hb5.mono b1.size)
  have b3 := pw_below_drewN b2 m6
  exact b3.trans (hb7.mono b3.size)
set_option maxHeartbeats 4000000 in
set_option maxRecDepth 100000 in
theorem all_walk_long (key : ByteArray) (hs : 1000 < key.size) (w : World) :
    Calls Try.prog 4 #[.string key] w fun e w' => e = .returned (.bool true) ∧ Below w.heap.size w w' := by
  have g0 : decide ((key.size : Int) > 1000) = true := decide_eq_true (by omega)
  clear hs
  go_enter Try.func4, Try.ntmps4
  go_wp2
  go_ret
  exact ⟨rfl, Below.refl _ _⟩
set_option maxHeartbeats 8000000 in
set_option maxRecDepth 100000 in
/-- The law SlotKnown, where all is as it is to be. -/
theorem known_walk (k : Nat) (key t : ByteArray) (c : Int) (hs : key.size ≤ 300) (h1 : slot_Of.f k key = some (Int.tmod c 16384)) (h2 : slot_Of.f k ⟨#[102, 111, 111]⟩ = some 12182) (h3 : slot_Of.f k ⟨#[98, 97, 114]⟩ = some 5061) (h4 : slot_Of.f k ⟨#[104, 101, 108, 108, 111]⟩ = some 866) (h5 : slot_Of.f k ⟨#[]⟩ = some 0)
    (hn0 : 0 ≤ Int.tmod c 16384) (hn1 : Int.tmod c 16384 < 16384) (h6 : slot_Tag.f key = some t) (ht : t.size < 8796093022208) (h7 : slot_Crc.f k (bytesOf t) = some c) (h9 : caravanlaw1_awake.f k = some true) (w : World) :
    Calls Try.prog 5 #[.string key] w fun e w' => e = .returned (.bool true) ∧ Below w.heap.size w w' := by
  have H1 := Aside0.mk h1
  have H2 := Aside0.mk h2
  have H3 := Aside0.mk h3
  have H4 := Aside0.mk h4
  have H5 := Aside0.mk h5
  have H6 := Aside0.mk h6
  have H7 := Aside0.mk h7
  have H9 := Aside0.mk h9
  have CT := Aside0.mk ht
  have g0 : decide ((key.size : Int) > 300) = false := decide_eq_false (by omega)
  have g1 : decide (Int.tmod c 16384 ≥ 0) = true := decide_eq_true hn0
  have g2 : decide (Int.tmod c 16384 < 16384) = true := decide_eq_true hn1
  clear h1 h2 h3 h4 h5 h6 h7 h9 ht hs
  have kb := fun W s => print_bytes (P := Try.prog) 9 22 5 Try.underlying9 Try.underlying22 Try.underlying5 s W
  go_enter Try.func5, Try.ntmps5
  go_wp2_with (first | (go_at_call_of 14 (Value.string key); refine (slot_Of.calls k _ _ _ H1.out).mono ?_; rintro e w1 ⟨rfl, hb1⟩) | (go_at_call_of 14 (Value.string ⟨#[102, 111, 111]⟩); refine (slot_Of.calls k _ _ _ H2.out).mono ?_; rintro e w2 ⟨rfl, hb2⟩) | (go_at_call_of 14 (Value.string ⟨#[98, 97, 114]⟩); refine (slot_Of.calls k _ _ _ H3.out).mono ?_; rintro e w3 ⟨rfl, hb3⟩) | (go_at_call_of 14 (Value.string ⟨#[104, 101, 108, 108, 111]⟩); refine (slot_Of.calls k _ _ _ H4.out).mono ?_; rintro e w4 ⟨rfl, hb4⟩) | (go_at_call_of 14 (Value.string ⟨#[]⟩); refine (slot_Of.calls k _ _ _ H5.out).mono ?_; rintro e w5 ⟨rfl, hb5⟩) | (go_at_call 12; refine (slot_Tag.calls key t _ H6.out).mono ?_; rintro e w6 ⟨rfl, ⟨m6, rfl⟩⟩) | (go_at_call 10; refine (crc_of k t c _ _ (by rfl) CT.out H7.out).mono ?_; rintro e w7 ⟨rfl, ⟨m7, rfl⟩⟩) | (go_at_call 9; refine (caravanlaw1_awake.calls k true _ H9.out).mono ?_; rintro e w9 ⟨rfl, hb9⟩))
  go_ret
  refine ⟨rfl, ?_⟩
  have b1 := hb1
  have b2 := b1.trans (hb2.mono b1.size)
  have b3 := b2.trans (hb3.mono b2.size)
  have b4 := b3.trans (hb4.mono b3.size)
  have b5 := pw_below_drewN (b4.trans (hb5.mono b4.size)) m6
  have b6 := pw_below_drewN (bytes_below b5 b5.size 5 t) m7
  exact b6.trans (hb9.mono b6.size)
set_option maxHeartbeats 4000000 in
set_option maxRecDepth 100000 in
theorem known_walk_long (k : Nat) (key : ByteArray) (hs : 300 < key.size) (h9 : caravanlaw1_awake.f k = some true) (w : World) :
    Calls Try.prog 5 #[.string key] w fun e w' => e = .returned (.bool true) ∧ Below w.heap.size w w' := by
  have H9 := Aside0.mk h9
  have g0 : decide ((key.size : Int) > 300) = true := decide_eq_true (by omega)
  clear hs h9
  go_enter Try.func5, Try.ntmps5
  go_wp2_with (go_at_call 9; refine (caravanlaw1_awake.calls k true _ H9.out).mono ?_; rintro e w9 ⟨rfl, hb9⟩)
  go_ret
  exact ⟨rfl, hb9⟩
end Go.Proofs.Ytgbncimfkjfjcaa.SX

/-
  Proved: whatever bytes b and numbers at, by are handed in, the law SlotTurned of the slot layer answers true: bytes of which two side by side are turned have another check sum, and every sum is a number of 16 bits.
  Conditions: none of its own.
-/
import Derived.Test.YtgbncimfkjfjcaaSTux1
import Derived.Test.YtgbncimfkjfjcaaCrc
namespace Go.Proofs.Ytgbncimfkjfjcaa.Pure
open Go.RowKit Go.Proofs.Ytgbncimfkjfjcaa.STu Go.Proofs.YtgbncimfkjfjcaaW.PrintWords Go.Proofs.YtgbncimfkjfjcaaW.PrintLast
open Go.Proofs.Ytgbncimfkjfjcaa.Crc

theorem wrap64_small (n : Int) (h0 : -9223372036854775808 ≤ n) (h1 : n < 9223372036854775808) : wrap64 n = n := by unfold wrap64; omega

theorem l1_round (k : Nat) (x : Int) (l : List Int) (n i j : Int) (hj0 : 0 ≤ j) (hj : j < 8) : slot_Crc.l1 (k + 1) x l n i j = slot_Crc.l1 k (stepI x) l n i (j + 1) := by
  simp only [slot_Crc.l1]
  rw [if_pos hj, wrap64_small (j + 1) (by omega) (by omega)]
  rfl
theorem l1_end (k : Nat) (x : Int) (l : List Int) (n i : Int) (hi0 : 0 ≤ i) (hi : i < 9223372036854775807) : slot_Crc.l1 (k + 1) x l n i 8 = slot_Crc.l0 k x l n (i + 1) := by
  simp only [slot_Crc.l1]
  rw [if_neg (by decide), wrap64_small (i + 1) (by omega) (by omega)]
theorem l1_all (k : Nat) (x : Int) (l : List Int) (n i : Int) (hi0 : 0 ≤ i) (hi : i < 9223372036854775807) :
    slot_Crc.l1 (k + 9) x l n i 0 = slot_Crc.l0 k (stepI (stepI (stepI (stepI (stepI (stepI (stepI (stepI x)))))))) l n (i + 1) := by
  rw [l1_round (k + 8) x l n i 0 (by decide) (by decide), l1_round (k + 7) _ l n i (0 + 1) (by decide) (by decide), l1_round (k + 6) _ l n i (0 + 1 + 1) (by decide) (by decide), l1_round (k + 5) _ l n i (0 + 1 + 1 + 1) (by decide) (by decide),
    l1_round (k + 4) _ l n i (0 + 1 + 1 + 1 + 1) (by decide) (by decide), l1_round (k + 3) _ l n i (0 + 1 + 1 + 1 + 1 + 1) (by decide) (by decide), l1_round (k + 2) _ l n i (0 + 1 + 1 + 1 + 1 + 1 + 1) (by decide) (by decide), l1_round (k + 1) _ l n i (0 + 1 + 1 + 1 + 1 + 1 + 1 + 1) (by decide) (by decide)]
  exact l1_end k _ l n i hi0 hi
theorem l0_round (k : Nat) (x : Int) (l : List Int) (i : Nat) (hi : i < l.length) (hl : l.length ≤ 9223372036854775807) :
    slot_Crc.l0 (k + 10) x l (l.length : Int) (i : Int) = slot_Crc.l0 k (feedI x (l.getD i 0)) l (l.length : Int) ((i : Int) + 1) := by
  have h1 : slot_Crc.l0 (k + 10) x l (l.length : Int) (i : Int) = slot_Crc.l1 (k + 9) (mixI x (l.getD i 0)) l (l.length : Int) (i : Int) 0 := by
    simp only [slot_Crc.l0]
    rw [if_pos (by omega), if_pos (by omega), if_pos (by omega)]
    rfl
  rw [h1, l1_all k _ l _ _ (by omega) (by omega)]
  rfl
theorem l0_all (l : List Int) (hl : l.length ≤ 9223372036854775807) (m : Nat) : ∀ (x : Int) (i : Nat), i + m = l.length → slot_Crc.l0 (10 * m + 1) x l (l.length : Int) (i : Int) = some (wrap64 (crcI (l.drop i) x)) := by
  induction m with
  | zero =>
    intro x i h
    simp only [slot_Crc.l0]
    rw [if_neg (by omega), List.drop_eq_nil_of_le (by omega)]
    rfl
  | succ m ih =>
    intro x i h
    have h2 := ih (feedI x (l.getD i 0)) (i + 1) (by omega)
    rw [show 10 * (m + 1) + 1 = (10 * m + 1) + 10 from by omega, l0_round _ x l i (by omega) hl]
    rw [show ((i : Int) + 1) = ((i + 1 : Nat) : Int) from by omega, h2, List.drop_eq_getElem_cons (by omega : i < l.length)]
    have e : l.getD i 0 = l[i] := by rw [List.getD_eq_getElem?_getD, List.getElem?_eq_getElem (by omega)]; rfl
    rw [e]
    rfl
theorem crc_f (l : List Int) (hl : l.length ≤ 9223372036854775807) (hb : Bytes l) (k : Nat) (hk : 10 * l.length + 1 ≤ k) : slot_Crc.f k l = some (crcI l 0) := by
  refine at_rounds (g := fun k => slot_Crc.f k l) (fun k => slot_Crc.mono l k) hk ?_
  show slot_Crc.l0 (10 * l.length + 1) 0 l (l.length : Int) ((0 : Nat) : Int) = _
  have hr := crcI_range l hb
  rw [l0_all l hl l.length 0 0 (by omega), List.drop_zero, wrap64_small _ (by omega) (by omega)]
theorem awake_bytes : Bytes ([49, 50, 51, 52, 53, 54, 55, 56, 57] : List Int) := by
  unfold Bytes
  decide
theorem awake_f (k : Nat) (hk : 91 ≤ k) : caravanlaw1_awake.f k = some true := by
  unfold caravanlaw1_awake.f
  rw [crc_f _ (by decide) awake_bytes k (by simpa using hk)]
  simp only [Option.bind_some]
  have : (crcI ([49, 50, 51, 52, 53, 54, 55, 56, 57] : List Int) 0 == 12739) = true := by decide +kernel
  rw [this]

theorem u8_bytes {l : List Int} (h : ∀ x ∈ l, (Lit.int .u8 x).wf = true) : Bytes l := by
  intro c hc
  have := h c hc
  simp [Lit.wf, IntKind.min, IntKind.max, IntKind.signed, IntKind.bits] at this
  omega

theorem SlotTurned : caravanlaw1_SlotTurned.Pure := by
  intro l a1 a2 _ hlen hw h1 h2
  have hb := u8_bytes hw
  have h1' : 0 ≤ a1 ∧ a1 < 65536 := by
    simp [Lit.wf, IntKind.min, IntKind.max, IntKind.signed, IntKind.bits] at h1
    omega
  have h2' : 0 ≤ a2 ∧ a2 < 65536 := by
    simp [Lit.wf, IntKind.min, IntKind.max, IntKind.signed, IntKind.bits] at h2
    omega
  refine ⟨20000, ?_⟩
  have haw : ∀ b, b = true → caravanlaw1_SlotTurned.j0 20000 l a1 a2 b = some true := by
    intro b hb
    show caravanlaw1_SlotTurned.j0 (19999 + 1) l a1 a2 b = some true
    simp only [caravanlaw1_SlotTurned.j0]
    rw [if_pos hb, awake_f 19999 (by omega)]
    rfl
  unfold caravanlaw1_SlotTurned.f
  by_cases c1 : (l.length : Int) < 2
  · rw [if_pos c1]; exact haw _ rfl
  rw [if_neg c1]
  by_cases c2 : (l.length : Int) > 1000
  · rw [if_pos c2]; exact haw _ rfl
  rw [if_neg c2]
  by_cases c3 : a2 = 0
  · exact haw _ (by simp [c3])
  show caravanlaw1_SlotTurned.j0 (19999 + 1) l a1 a2 (a2 == 0) = some true
  simp only [caravanlaw1_SlotTurned.j0]
  rw [if_neg (by simp [c3])]
  simp only [Option.bind_some, List.nil_append, List.length_nil]
  have e1 : wrap64 a1 = a1 := wrap64_small _ (by omega) (by omega)
  have e2 : wrap64 ((l.length : Int) - 1) = (l.length : Int) - 1 := wrap64_small _ (by omega) (by omega)
  rw [e1, e2]
  obtain ⟨j, hj⟩ : ∃ j : Nat, Int.tmod a1 ((l.length : Int) - 1) = (j : Int) := by
    rw [Int.tmod_eq_emod_of_nonneg h1'.1]
    exact Int.eq_ofNat_of_zero_le (Int.emod_nonneg _ (by omega))
  have hj2 : j + 1 < l.length := by
    have h := Int.emod_lt_of_pos a1 (b := (l.length : Int) - 1) (by omega)
    rw [Int.tmod_eq_emod_of_nonneg h1'.1] at hj
    omega
  rw [hj]
  have e3 : wrap64 ((j : Int) + 1) = ((j + 1 : Nat) : Int) := by rw [wrap64_small _ (by omega) (by omega)]; omega
  rw [e3]
  rw [if_pos (by omega), if_neg (by omega), if_pos (by omega), if_pos (by omega), if_pos (by omega), if_pos (by omega)]
  have hset : rd (l.set (j : Int).toNat (Go.bits .xor .u8 (rd l (j : Int)) (a2 / 256 % 256))) ((j + 1 : Nat) : Int) = l.getD (j + 1) 0 := by
    unfold rd
    rw [Int.toNat_natCast, Int.toNat_natCast, List.getD_eq_getElem?_getD, List.getElem?_set_ne (by omega), ← List.getD_eq_getElem?_getD]
  rw [hset]
  have hrd : rd l (j : Int) = l.getD j 0 := by unfold rd; rw [Int.toNat_natCast]
  rw [hrd, Int.toNat_natCast, Int.toNat_natCast]
  obtain ⟨hne, hb2⟩ := turned_ne l hb j hj2 (a2 / 256 % 256) (a2 % 256) (by omega) (by omega) (by omega) (by omega) (by omega)
  obtain ⟨c, hc⟩ : ∃ c, c = (l.set j (Go.bits .xor .u8 (l.getD j 0) (a2 / 256 % 256))).set (j + 1) (Go.bits .xor .u8 (l.getD (j + 1) 0) (a2 % 256)) := ⟨_, rfl⟩
  have hcl : c.length = l.length := by rw [hc, List.length_set, List.length_set]
  rw [← hc] at hne hb2 ⊢
  rw [crc_f l (by omega) hb 19999 (by omega), crc_f c (by omega) hb2 19999 (by omega)]
  simp only [Option.bind_some]
  have hr := crcI_range l hb
  rw [if_neg hne, if_pos (by omega), if_pos (by omega), awake_f 19999 (by omega)]
  rfl

end Go.Proofs.Ytgbncimfkjfjcaa.Pure

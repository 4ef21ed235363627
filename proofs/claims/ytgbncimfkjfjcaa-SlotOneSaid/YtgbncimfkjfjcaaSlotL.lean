/-
  What the printed functions of slots answer, from some number of rounds on: the check sum (both ways), the tag (both ways), a key's slot. Plain lists. Conditions: none.
-/
import Derived.Test.YtgbncimfkjfjcaaSXx1
import Derived.Test.YtgbncimfkjfjcaaCrc
namespace Go.Proofs.Ytgbncimfkjfjcaa.Pure
open Go.RowKit Go.Proofs.Ytgbncimfkjfjcaa.SX Go.Proofs.YtgbncimfkjfjcaaW.PrintWords Go.Proofs.YtgbncimfkjfjcaaW.PrintLast
open Go.Proofs.Ytgbncimfkjfjcaa.Crc
theorem wn {i : Int} (h0 : -9223372036854775808 ≤ i) (h1 : i < 9223372036854775808) : wrap64 i = i := by unfold wrap64; omega
theorem w1 {i : Nat} (h : i < 1000000000) : wrap64 ((i : Int) + 1) = ((i + 1 : Nat) : Int) := by unfold wrap64; omega
/-! ### The check sum, as the program has it -/
theorem l1_round (k : Nat) (x : Int) (l : List Int) (n i j : Int) (hj0 : 0 ≤ j) (hj : j < 8) : slot_Crc.l1 (k + 1) x l n i j = slot_Crc.l1 k (stepI x) l n i (j + 1) := by
  simp only [slot_Crc.l1]
  rw [if_pos hj, wn (i := j + 1) (by omega) (by omega)]
  rfl
theorem l1_end (k : Nat) (x : Int) (l : List Int) (n i : Int) (hi0 : 0 ≤ i) (hi : i < 9223372036854775807) : slot_Crc.l1 (k + 1) x l n i 8 = slot_Crc.l0 k x l n (i + 1) := by
  simp only [slot_Crc.l1]
  rw [if_neg (by decide), wn (i := i + 1) (by omega) (by omega)]
theorem l1_all (k : Nat) (x : Int) (l : List Int) (n i : Int) (hi0 : 0 ≤ i) (hi : i < 9223372036854775807) :
    slot_Crc.l1 (k + 9) x l n i 0 = slot_Crc.l0 k (stepI (stepI (stepI (stepI (stepI (stepI (stepI (stepI x)))))))) l n (i + 1) := by
  rw [l1_round (k + 8) x l n i 0 (by decide) (by decide), l1_round (k + 7) _ l n i (0 + 1) (by decide) (by decide), l1_round (k + 6) _ l n i (0 + 1 + 1) (by decide) (by decide), l1_round (k + 5) _ l n i (0 + 1 + 1 + 1) (by decide) (by decide),
    l1_round (k + 4) _ l n i (0 + 1 + 1 + 1 + 1) (by decide) (by decide), l1_round (k + 3) _ l n i (0 + 1 + 1 + 1 + 1 + 1) (by decide) (by decide), l1_round (k + 2) _ l n i (0 + 1 + 1 + 1 + 1 + 1 + 1) (by decide) (by decide), l1_round (k + 1) _ l n i (0 + 1 + 1 + 1 + 1 + 1 + 1 + 1) (by decide) (by decide)]
  exact l1_end k _ l n i hi0 hi
theorem l0_round (k : Nat) (x : Int) (l : List Int) (i : Nat) (hi : i < l.length) (hl : l.length ≤ 9223372036854775807) :
    slot_Crc.l0 (k + 10) x l (l.length : Int) (i : Int) = slot_Crc.l0 k (feedI x (l.getD i 0)) l (l.length : Int) ((i : Int) + 1) := by
  have h1 : slot_Crc.l0 (k + 10) x l (l.length : Int) (i : Int) = slot_Crc.l1 (k + 9) (mixI x (l.getD i 0)) l (l.length : Int) (i : Int) 0 := by
    simp only [slot_Crc.l0]
    rw [if_pos (by omega), if_pos (by omega), if_pos (by omega)]
    rfl
  rw [h1, l1_all k _ l _ _ (by omega) (by omega)]
  rfl
theorem l0_all (l : List Int) (hl : l.length ≤ 9223372036854775807) (m : Nat) : ∀ (x : Int) (i : Nat), i + m = l.length → slot_Crc.l0 (10 * m + 1) x l (l.length : Int) (i : Int) = some (wrap64 (crcI (l.drop i) x)) := by
  induction m with
  | zero =>
    intro x i h
    simp only [slot_Crc.l0]
    rw [if_neg (by omega), List.drop_eq_nil_of_le (by omega)]
    rfl
  | succ m ih =>
    intro x i h
    have h2 := ih (feedI x (l.getD i 0)) (i + 1) (by omega)
    rw [show 10 * (m + 1) + 1 = (10 * m + 1) + 10 from by omega, l0_round _ x l i (by omega) hl]
    rw [show ((i : Int) + 1) = ((i + 1 : Nat) : Int) from by omega, h2, List.drop_eq_getElem_cons (by omega : i < l.length)]
    have e : l.getD i 0 = l[i] := by rw [List.getD_eq_getElem?_getD, List.getElem?_eq_getElem (by omega)]; rfl
    rw [e]
    rfl
theorem crc_ev (l : List Int) (hl : l.length ≤ 9223372036854775807) (hb : Bytes l) : Ev (fun k => slot_Crc.f k l) (crcI l 0) := by
  refine Ev.of (slot_Crc.mono l) (k := 10 * l.length + 1) ?_
  show slot_Crc.l0 (10 * l.length + 1) 0 l (l.length : Int) ((0 : Nat) : Int) = _
  have hr := crcI_range l hb
  rw [l0_all l hl l.length 0 0 (by omega), List.drop_zero, wn (by omega) (by omega)]
theorem awake_bytes : Bytes ([49, 50, 51, 52, 53, 54, 55, 56, 57] : List Int) := by
  unfold Bytes
  decide
theorem awake_ev : Ev (fun k => caravanlaw1_awake.f k) true := by
  refine Ev.congr (f := fun k => (slot_Crc.f k [49, 50, 51, 52, 53, 54, 55, 56, 57]).bind fun t => some (t == 12739)) (fun k => ?_) (Ev.bind (crc_ev _ (by decide) awake_bytes) ?_)
  · show caravanlaw1_awake.f k = _
    unfold caravanlaw1_awake.f
    rfl
  · have e : (crcI ([49, 50, 51, 52, 53, 54, 55, 56, 57] : List Int) 0 == 12739) = true := by decide +kernel
    rw [e]
    exact Ev.now true
/-- Text's bytes are bytes. -/
theorem bytes_of (s : ByteArray) : Bytes (bytesOf s) := by
  intro c hc
  obtain ⟨b, _, rfl⟩ := List.mem_map.mp hc
  have := b.toNat_lt
  omega
/-- The check sum of a text. -/
def sum (s : ByteArray) : Int := crcI (bytesOf s) 0
theorem sum_range (s : ByteArray) : 0 ≤ sum s ∧ sum s < 65536 := crcI_range _ (bytes_of s)
theorem sum_ev (s : ByteArray) (hs : s.size < 1000000000) : Ev (fun k => slot_Crc.f k (bytesOf s)) (sum s) := crc_ev _ (by rw [bytesOf_length]; omega) (bytes_of s)
/-! ### The check sum, as the document has it -/
theorem xor_i64 (a b : Nat) (ha : a < 9223372036854775808) (hb : b < 9223372036854775808) : Go.bits .xor .i64 (a : Int) (b : Int) = ((a ^^^ b : Nat) : Int) := by
  have h1 : (a ^^^ b) < 2 ^ 63 := Nat.xor_lt_two_pow (by omega) (by omega)
  have ha' : a % 2 ^ IntKind.i64.bits = a := Nat.mod_eq_of_lt (by show _ < 2 ^ 64; omega)
  have hb' : b % 2 ^ IntKind.i64.bits = b := Nat.mod_eq_of_lt (by show _ < 2 ^ 64; omega)
  simp only [Go.bits, BitVec.ofInt_natCast, BitVec.toNat_xor, BitVec.toNat_ofNat, ha', hb']
  rw [IntKind.wrap_i64]
  omega
theorem and_i64 (a b : Nat) (ha : a < 9223372036854775808) (hb : b < 9223372036854775808) : Go.bits .and .i64 (a : Int) (b : Int) = ((a &&& b : Nat) : Int) :=
  (Go.bits_nat .i64 63 (by decide) (fun n h0 h1 => by rw [IntKind.wrap_i64]; omega) a b (by omega) (by omega)).1
def stepR (x : Int) : Int := if (wrap64 (x * 2)) ≥ 65536 then Go.bits .and .i64 (Go.bits .xor .i64 (wrap64 (x * 2)) 4129) 65535 else wrap64 (x * 2)
def mixR (x c : Int) : Int := Go.bits .xor .i64 x (wrap64 ((wrap64 c) * 256))
def feedR (x c : Int) : Int := stepR (stepR (stepR (stepR (stepR (stepR (stepR (stepR (mixR x c))))))))
theorem stepR_sh (r : BitVec 16) : stepR (r.toNat : Int) = ((sh r).toNat : Int) := by
  have hr := r.isLt
  obtain ⟨a, ha⟩ : ∃ a, r.toNat = a := ⟨_, rfl⟩
  have hm : r.msb = decide (32768 ≤ a) := by rw [BitVec.msb_eq_decide, ha]
  rw [ha] at hr
  have hw : wrap64 ((a : Int) * 2) = ((2 * a : Nat) : Int) := by rw [wn (by omega) (by omega)]; omega
  have hs : (sh r).toNat = (2 * a % 65536) ^^^ (if 32768 ≤ a then 4129 else 0) := by
    unfold sh
    rw [BitVec.toNat_xor, hm, BitVec.toNat_shiftLeft, ha]
    have e : a <<< 1 % 2 ^ 16 = 2 * a % 65536 := by rw [Nat.shiftLeft_eq]; omega
    rw [e]
    by_cases h : 32768 ≤ a
    · rw [if_pos h, decide_eq_true h]; rfl
    · rw [if_neg h, decide_eq_false h]; rfl
  unfold stepR
  rw [ha, hw, hs]
  clear hw hs hm
  by_cases h : 32768 ≤ a
  · have e1 : Go.bits .xor .i64 ((2 * a : Nat) : Int) 4129 = ((2 * a ^^^ 4129 : Nat) : Int) := xor_i64 (2 * a) 4129 (by omega) (by omega)
    have h1 : (2 * a ^^^ 4129) < 2 ^ 63 := Nat.xor_lt_two_pow (by omega) (by omega)
    have e2 : Go.bits .and .i64 ((2 * a ^^^ 4129 : Nat) : Int) 65535 = (((2 * a ^^^ 4129) &&& 65535 : Nat) : Int) := and_i64 _ 65535 (by omega) (by omega)
    have e3 : (2 * a ^^^ 4129) &&& 65535 = (2 * a ^^^ 4129) % 65536 := Nat.and_two_pow_sub_one_eq_mod _ 16
    have e4 : (2 * a ^^^ 4129) % 65536 = (2 * a % 65536) ^^^ (4129 % 65536) := Nat.xor_mod_two_pow (n := 16)
    rw [if_pos (by omega), if_pos h, e1, e2, e3, e4]
  · rw [if_neg (by omega), if_neg h, Nat.xor_zero, Nat.mod_eq_of_lt (by omega)]
theorem mixR_eq (r : BitVec 16) (c : Int) (h0 : 0 ≤ c) (h1 : c < 256) : mixR (r.toNat : Int) c = ((r ^^^ (B c <<< 8)).toNat : Int) := by
  have hr := r.isLt
  obtain ⟨m, rfl⟩ := Int.eq_ofNat_of_zero_le h0
  have hw : wrap64 ((wrap64 (m : Int)) * 256) = ((m * 256 : Nat) : Int) := by
    rw [wn (i := (m : Int)) (by omega) (by omega), wn (by omega) (by omega)]
    omega
  have hb : (B (m : Int) <<< 8).toNat = m * 256 := by
    unfold B
    rw [BitVec.toNat_shiftLeft, BitVec.toNat_ofNat, Int.toNat_natCast, Nat.shiftLeft_eq]
    omega
  unfold mixR
  rw [hw, xor_i64 _ _ (by omega) (by clear hw; omega), BitVec.toNat_xor, hb]
theorem feedR_eq (r : BitVec 16) (c : Int) (h0 : 0 ≤ c) (h1 : c < 256) : feedR (r.toNat : Int) c = ((feed r c).toNat : Int) := by
  unfold feedR feed sh8
  rw [mixR_eq r c h0 h1]
  simp only [stepR_sh]
theorem r1_round (k : Nat) (s : ByteArray) (x i j : Int) (hj0 : 0 ≤ j) (hj : j < 8) : caravanref1_Crc.l1 (k + 1) s x i j = caravanref1_Crc.l1 k s (stepR x) i (j + 1) := by
  rw [caravanref1_Crc.l1, if_pos hj, wn (i := j + 1) (by omega) (by omega)]
  unfold stepR
  by_cases h : wrap64 (x * 2) ≥ 65536
  · rw [if_pos h, if_pos h]
  · rw [if_neg h, if_neg h]
theorem r1_end (k : Nat) (s : ByteArray) (x i : Int) (hi0 : 0 ≤ i) (hi : i < 9223372036854775807) : caravanref1_Crc.l1 (k + 1) s x i 8 = caravanref1_Crc.l0 k s x (i + 1) := by
  rw [caravanref1_Crc.l1, if_neg (by decide), wn (i := i + 1) (by omega) (by omega)]
theorem r1_all (k : Nat) (s : ByteArray) (x i : Int) (hi0 : 0 ≤ i) (hi : i < 9223372036854775807) :
    caravanref1_Crc.l1 (k + 9) s x i 0 = caravanref1_Crc.l0 k s (stepR (stepR (stepR (stepR (stepR (stepR (stepR (stepR x)))))))) (i + 1) := by
  rw [r1_round (k + 8) s x i 0 (by decide) (by decide), r1_round (k + 7) s _ i (0 + 1) (by decide) (by decide), r1_round (k + 6) s _ i (0 + 1 + 1) (by decide) (by decide), r1_round (k + 5) s _ i (0 + 1 + 1 + 1) (by decide) (by decide),
    r1_round (k + 4) s _ i (0 + 1 + 1 + 1 + 1) (by decide) (by decide), r1_round (k + 3) s _ i (0 + 1 + 1 + 1 + 1 + 1) (by decide) (by decide), r1_round (k + 2) s _ i (0 + 1 + 1 + 1 + 1 + 1 + 1) (by decide) (by decide), r1_round (k + 1) s _ i (0 + 1 + 1 + 1 + 1 + 1 + 1 + 1) (by decide) (by decide)]
  exact r1_end k s _ i hi0 hi
theorem r0_all (s : ByteArray) (hs : s.size < 1000000000) (m : Nat) : ∀ (r : BitVec 16) (i : Nat), i + m = s.size → caravanref1_Crc.l0 (10 * m + 1) s (r.toNat : Int) (i : Int) = some ((crcB ((bytesOf s).drop i) r).toNat : Int) := by
  induction m with
  | zero =>
    intro r i h
    rw [caravanref1_Crc.l0, if_neg (by omega), List.drop_eq_nil_of_le (by rw [bytesOf_length]; omega)]
    rfl
  | succ m ih =>
    intro r i h
    have hlt : i < (bytesOf s).length := by rw [bytesOf_length]; omega
    have hb : bt s (i : Int) = (bytesOf s)[i] := by
      rw [← rd_bytesOf]
      unfold rd
      rw [Int.toNat_natCast, List.getD_eq_getElem?_getD, List.getElem?_eq_getElem hlt]
      rfl
    have hc := bytes_of s _ (List.getElem_mem hlt)
    have d1 : (i : Int) < (s.size : Int) := by omega
    have d2 : (0 : Int) ≤ (i : Int) := by omega
    have h2 := ih (feed r ((bytesOf s)[i])) (i + 1) (by omega)
    have h3 : caravanref1_Crc.l0 (10 * m + 1 + 10) s (r.toNat : Int) (i : Int) = caravanref1_Crc.l1 (10 * m + 1 + 9) s (mixR (r.toNat : Int) (bt s (i : Int))) (i : Int) 0 := by
      rw [caravanref1_Crc.l0, if_pos d1, if_pos d2]
      rfl
    have h4 := feedR_eq r ((bytesOf s)[i]) hc.1 hc.2
    unfold feedR at h4
    rw [show 10 * (m + 1) + 1 = 10 * m + 1 + 10 from by omega, h3, r1_all (10 * m + 1) s _ (i : Int) (by omega) (by omega), hb, h4, show ((i : Int) + 1) = ((i + 1 : Nat) : Int) from by omega, h2, List.drop_eq_getElem_cons hlt]
    rfl
theorem rsum_ev (s : ByteArray) (hs : s.size < 1000000000) : Ev (fun k => caravanref1_Crc.f k s) (sum s) := by
  refine Ev.of (caravanref1_Crc.mono s) (k := 10 * s.size + 1) ?_
  have h := r0_all s hs s.size 0#16 0 (by omega)
  unfold caravanref1_Crc.f sum
  rw [crcI_zero _ (bytes_of s)]
  exact h
end Go.Proofs.Ytgbncimfkjfjcaa.Pure

/-
  The check sum of chapter 1 as plain mathematics: 16 bit words, linear over 'exclusive or', one to one in the state; and the same over whole numbers as the Go text has them.
-/
import Derived.RowKit
import Derived.Laws.BitsLemmas
namespace Go.Proofs.Ytgbncimfkjfjcaa.Crc
open Go.RowKit

def sh (r : BitVec 16) : BitVec 16 := (r <<< 1) ^^^ (if r.msb then 0x1021#16 else 0#16)
def sh8 (r : BitVec 16) : BitVec 16 := sh (sh (sh (sh (sh (sh (sh (sh r)))))))
def B (c : Int) : BitVec 16 := BitVec.ofNat 16 c.toNat
def feed (r : BitVec 16) (c : Int) : BitVec 16 := sh8 (r ^^^ (B c <<< 8))
def crcB (l : List Int) (r : BitVec 16) : BitVec 16 := l.foldl feed r

theorem sh_xor (a b : BitVec 16) : sh (a ^^^ b) = sh a ^^^ sh b := by
  have key : ∀ p q : Bool, (if (p != q) = true then 0x1021#16 else 0#16) = (if p = true then 0x1021#16 else 0#16) ^^^ (if q = true then 0x1021#16 else 0#16) := by decide
  unfold sh
  rw [BitVec.msb_xor, BitVec.shiftLeft_xor_distrib]
  refine (congrArg (fun z => (a <<< 1 ^^^ b <<< 1) ^^^ z) (key a.msb b.msb)).trans ?_
  ac_rfl
theorem sh_zero (x : BitVec 16) (h : sh x = 0#16) : x = 0#16 := by
  unfold sh at h
  have hx := x.isLt
  cases hm : x.msb with
  | false =>
    rw [hm] at h
    simp at h
    rw [BitVec.msb_eq_decide] at hm
    simp at hm
    have := congrArg BitVec.toNat h
    simp [Nat.shiftLeft_eq] at this
    apply BitVec.eq_of_toNat_eq
    simp
    omega
  | true =>
    rw [hm] at h
    simp only [if_true] at h
    have h2 := congrArg (· ^^^ 0x1021#16) h
    simp only [BitVec.xor_assoc, BitVec.xor_self, BitVec.xor_zero, BitVec.zero_xor] at h2
    have := congrArg BitVec.toNat h2
    simp [Nat.shiftLeft_eq] at this
    omega
theorem xor_eq_zero (a b : BitVec 16) (h : a ^^^ b = 0#16) : a = b := by
  have h2 := congrArg (· ^^^ b) h
  simpa only [BitVec.xor_assoc, BitVec.xor_self, BitVec.xor_zero, BitVec.zero_xor] using h2
theorem sh_inj (a b : BitVec 16) (h : sh a = sh b) : a = b := by
  apply xor_eq_zero
  apply sh_zero
  rw [sh_xor, h, BitVec.xor_self]
theorem sh8_xor (a b : BitVec 16) : sh8 (a ^^^ b) = sh8 a ^^^ sh8 b := by unfold sh8; simp only [sh_xor]
theorem sh8_inj (a b : BitVec 16) (h : sh8 a = sh8 b) : a = b := by
  unfold sh8 at h
  exact sh_inj _ _ (sh_inj _ _ (sh_inj _ _ (sh_inj _ _ (sh_inj _ _ (sh_inj _ _ (sh_inj _ _ (sh_inj _ _ h)))))))
theorem xor_right_inj (a b c : BitVec 16) (h : a ^^^ c = b ^^^ c) : a = b := by
  have h2 := congrArg (· ^^^ c) h
  simpa only [BitVec.xor_assoc, BitVec.xor_self, BitVec.xor_zero] using h2
theorem xor_left_inj (a b c : BitVec 16) (h : c ^^^ a = c ^^^ b) : a = b := by
  rw [BitVec.xor_comm c a, BitVec.xor_comm c b] at h
  exact xor_right_inj a b c h
theorem feed_inj (a b : BitVec 16) (c : Int) (h : feed a c = feed b c) : a = b := xor_right_inj _ _ _ (sh8_inj _ _ h)
theorem crcB_inj (l : List Int) (a b : BitVec 16) (h : crcB l a = crcB l b) : a = b := by
  induction l generalizing a b with
  | nil => exact h
  | cons c l ih => exact feed_inj a b c (ih _ _ h)
theorem sh8_byte : ∀ c : Fin 256, sh8 (BitVec.ofNat 16 c) = BitVec.ofNat 16 c <<< 8 := by decide +kernel
theorem sh8_B (c : Int) (h : c < 256) : sh8 (B c) = B c <<< 8 := sh8_byte ⟨c.toNat, by omega⟩
theorem feed_two (r : BitVec 16) (x y : Int) (hy : y < 256) : feed (feed r x) y = sh8 (sh8 (r ^^^ (B x <<< 8) ^^^ B y)) := by
  unfold feed
  rw [← sh8_B y hy, ← sh8_xor]
theorem feed_two_ne (r : BitVec 16) (x y h l : Int) (hy : y < 256) (x2 y2 : Int) (hx2 : B x2 = B x ^^^ B h) (hy2 : B y2 = B y ^^^ B l) (hy3 : y2 < 256) (hh0 : 0 ≤ h) (hh : h < 256) (hl0 : 0 ≤ l) (hl : l < 256) (hne : ¬ (h = 0 ∧ l = 0)) :
    feed (feed r x) y ≠ feed (feed r x2) y2 := by
  intro he
  rw [feed_two r x y hy, feed_two r x2 y2 hy3] at he
  have h1 := sh8_inj _ _ (sh8_inj _ _ he)
  rw [BitVec.xor_assoc, BitVec.xor_assoc] at h1
  have h2 := xor_left_inj _ _ _ h1
  rw [hx2, hy2, BitVec.shiftLeft_xor_distrib] at h2
  have h3 : (B x <<< 8 ^^^ B y) ^^^ 0#16 = (B x <<< 8 ^^^ B y) ^^^ (B h <<< 8 ^^^ B l) := by
    rw [BitVec.xor_zero]
    refine h2.trans ?_
    ac_rfl
  have h4 := (xor_left_inj _ _ _ h3).symm
  have h5 := xor_eq_zero _ _ h4
  have h6 := congrArg BitVec.toNat h5
  simp [B, Nat.shiftLeft_eq] at h6
  apply hne
  omega

/-! ### over whole numbers -/
def stepI (x : Int) : Int := Go.bits .xor .u16 (IntKind.u16.wrap (x * 2)) (IntKind.u16.wrap (4129 * (x / 32768)))
def mixI (x c : Int) : Int := Go.bits .xor .u16 x (IntKind.u16.wrap ((IntKind.u16.wrap c) * 256))
def feedI (x c : Int) : Int := stepI (stepI (stepI (stepI (stepI (stepI (stepI (stepI (mixI x c))))))))
theorem wrap_u16 (n : Int) : IntKind.u16.wrap n = n % 65536 := by simp [IntKind.wrap, IntKind.bits, IntKind.signed]
theorem xor_u16 (a b : BitVec 16) (x y : Int) (hx : BitVec.ofInt 16 x = a) (hy : BitVec.ofInt 16 y = b) : Go.bits .xor .u16 x y = ((a ^^^ b).toNat : Int) := by
  subst hx; subst hy
  unfold Go.bits
  rw [wrap_u16]
  have := (BitVec.ofInt 16 x ^^^ BitVec.ofInt 16 y).isLt
  show (((BitVec.ofInt 16 x ^^^ BitVec.ofInt 16 y).toNat : Int)) % 65536 = _
  omega
theorem stepI_sh (r : BitVec 16) : stepI (r.toNat : Int) = ((sh r).toNat : Int) := by
  have hr := r.isLt
  unfold stepI sh
  apply xor_u16
  · rw [wrap_u16]
    apply BitVec.eq_of_toNat_eq
    simp [BitVec.toNat_ofInt, Nat.shiftLeft_eq]
    omega
  · rw [wrap_u16]
    cases hm : r.msb with
    | false =>
      rw [BitVec.msb_eq_decide] at hm
      simp at hm
      have : ((r.toNat : Int) / 32768) = 0 := by omega
      rw [this]
      rfl
    | true =>
      rw [BitVec.msb_eq_decide] at hm
      simp at hm
      have : ((r.toNat : Int) / 32768) = 1 := by omega
      rw [this]
      rfl
theorem mixI_eq (r : BitVec 16) (c : Int) (h0 : 0 ≤ c) (h1 : c < 256) : mixI (r.toNat : Int) c = ((r ^^^ (B c <<< 8)).toNat : Int) := by
  unfold mixI
  apply xor_u16
  · apply BitVec.eq_of_toNat_eq
    simp
  · rw [wrap_u16, wrap_u16]
    apply BitVec.eq_of_toNat_eq
    simp [BitVec.toNat_ofInt, B, Nat.shiftLeft_eq]
    omega
theorem feedI_eq (r : BitVec 16) (c : Int) (h0 : 0 ≤ c) (h1 : c < 256) : feedI (r.toNat : Int) c = ((feed r c).toNat : Int) := by
  unfold feedI feed sh8
  rw [mixI_eq r c h0 h1]
  simp only [stepI_sh]
def crcI (l : List Int) (x : Int) : Int := l.foldl feedI x
def Bytes (l : List Int) : Prop := ∀ c ∈ l, 0 ≤ c ∧ c < 256
theorem crcI_eq (l : List Int) (r : BitVec 16) (h : Bytes l) : crcI l (r.toNat : Int) = ((crcB l r).toNat : Int) := by
  induction l generalizing r with
  | nil => rfl
  | cons c l ih =>
    have hc := h c (by simp)
    show crcI l (feedI (r.toNat : Int) c) = ((crcB l (feed r c)).toNat : Int)
    rw [feedI_eq r c hc.1 hc.2]
    exact ih _ (fun d hd => h d (by simp [hd]))
theorem crcI_zero (l : List Int) (h : Bytes l) : crcI l 0 = ((crcB l 0#16).toNat : Int) := crcI_eq l 0#16 h
theorem crcI_range (l : List Int) (h : Bytes l) : 0 ≤ crcI l 0 ∧ crcI l 0 < 65536 := by
  rw [crcI_zero l h]
  have := (crcB l 0#16).isLt
  omega
theorem xor_u8 (x y : Int) (hx0 : 0 ≤ x) (hx : x < 256) (hy0 : 0 ≤ y) (hy : y < 256) : B (Go.bits .xor .u8 x y) = B x ^^^ B y ∧ 0 ≤ Go.bits .xor .u8 x y ∧ Go.bits .xor .u8 x y < 256 := by
  obtain ⟨a, rfl⟩ := Int.eq_ofNat_of_zero_le hx0
  obtain ⟨b, rfl⟩ := Int.eq_ofNat_of_zero_le hy0
  have ha : a % 256 = a := by omega
  have hb : b % 256 = b := by omega
  have he : Go.bits .xor .u8 (a : Int) (b : Int) = ((a ^^^ b : Nat) : Int) := by
    unfold Go.bits
    rw [IntKind.wrap_u8]
    show (((BitVec.ofInt 8 (a : Int) ^^^ BitVec.ofInt 8 (b : Int)).toNat : Int)) % 256 = _
    have h1 : (a ^^^ b) < 2 ^ 8 := Nat.xor_lt_two_pow (by omega) (by omega)
    simp only [BitVec.ofInt_natCast, BitVec.toNat_xor, BitVec.toNat_ofNat]
    rw [show a % 2 ^ 8 = a from ha, show b % 2 ^ 8 = b from hb]
    omega
  have h1 : (a ^^^ b) < 2 ^ 8 := Nat.xor_lt_two_pow (by omega) (by omega)
  rw [he]
  refine ⟨?_, by omega, by omega⟩
  apply BitVec.eq_of_toNat_eq
  simp [B]

/-- Two bytes side by side turned: another sum. -/
theorem turned_ne (l : List Int) (hl : Bytes l) (k : Nat) (hk : k + 1 < l.length) (h lo : Int) (hh0 : 0 ≤ h) (hh : h < 256) (hl0 : 0 ≤ lo) (hlo : lo < 256) (hne : ¬ (h = 0 ∧ lo = 0)) :
    crcI l 0 ≠ crcI ((l.set k (Go.bits .xor .u8 (l.getD k 0) h)).set (k + 1) (Go.bits .xor .u8 (l.getD (k + 1) 0) lo)) 0 ∧ Bytes ((l.set k (Go.bits .xor .u8 (l.getD k 0) h)).set (k + 1) (Go.bits .xor .u8 (l.getD (k + 1) 0) lo)) := by
  obtain ⟨x, hx⟩ : ∃ x, x = l.getD k 0 := ⟨_, rfl⟩
  obtain ⟨y, hy⟩ : ∃ y, y = l.getD (k + 1) 0 := ⟨_, rfl⟩
  rw [← hx, ← hy]
  have hsplit : l = l.take k ++ (x :: y :: l.drop (k + 2)) := by
    have e1 : l.drop k = l[k] :: l.drop (k + 1) := List.drop_eq_getElem_cons (by omega)
    have e2 : l.drop (k + 1) = l[k + 1] :: l.drop (k + 2) := List.drop_eq_getElem_cons (by omega)
    have ex : x = l[k] := by rw [hx, List.getD_eq_getElem?_getD, List.getElem?_eq_getElem (by omega)]; rfl
    have ey : y = l[k + 1] := by rw [hy, List.getD_eq_getElem?_getD, List.getElem?_eq_getElem (by omega)]; rfl
    rw [ex, ey, ← e2, ← e1, List.take_append_drop]
  have hxm : x ∈ l := by rw [hsplit]; simp
  have hym : y ∈ l := by rw [hsplit]; simp
  have hxb := hl x hxm
  have hyb := hl y hym
  obtain ⟨gx, gx0, gx1⟩ := xor_u8 x h hxb.1 hxb.2 hh0 hh
  obtain ⟨gy, gy0, gy1⟩ := xor_u8 y lo hyb.1 hyb.2 hl0 hlo
  obtain ⟨x2, hx2⟩ : ∃ x2, x2 = Go.bits .xor .u8 x h := ⟨_, rfl⟩
  obtain ⟨y2, hy2⟩ : ∃ y2, y2 = Go.bits .xor .u8 y lo := ⟨_, rfl⟩
  rw [← hx2] at gx gx0 gx1 ⊢
  rw [← hy2] at gy gy0 gy1 ⊢
  obtain ⟨p, hp⟩ : ∃ p, p = l.take k := ⟨_, rfl⟩
  obtain ⟨q, hq⟩ : ∃ q, q = l.drop (k + 2) := ⟨_, rfl⟩
  have hplen : p.length = k := by rw [hp, List.length_take]; omega
  rw [← hp, ← hq] at hsplit
  have hset : (l.set k x2).set (k + 1) y2 = p ++ (x2 :: y2 :: q) := by
    rw [hsplit, List.set_append_right _ _ (by omega), hplen, Nat.sub_self, List.set_cons_zero, List.set_append_right _ _ (by omega), hplen, Nat.add_sub_cancel_left]
    rfl
  have hbp : Bytes (p ++ (x2 :: y2 :: q)) := by
    intro c hc
    rcases List.mem_append.1 hc with hc | hc
    · exact hl c (by rw [hsplit]; simp [hc])
    · rcases List.mem_cons.1 hc with rfl | hc
      · exact ⟨gx0, gx1⟩
      · rcases List.mem_cons.1 hc with rfl | hc
        · exact ⟨gy0, gy1⟩
        · exact hl c (by rw [hsplit]; simp [hc])
  rw [hset]
  refine ⟨?_, hbp⟩
  rw [crcI_zero _ hl, crcI_zero _ hbp]
  intro he
  have he2 : (crcB l 0#16).toNat = (crcB (p ++ (x2 :: y2 :: q)) 0#16).toNat := by omega
  have he3 := BitVec.eq_of_toNat_eq he2
  rw [hsplit] at he3
  unfold crcB at he3
  rw [List.foldl_append, List.foldl_append, List.foldl_cons, List.foldl_cons, List.foldl_cons, List.foldl_cons] at he3
  exact feed_two_ne _ x y h lo hyb.2 x2 y2 gx gy gy1 hh0 hh hl0 hlo hne (crcB_inj q _ _ he3)
end Go.Proofs.Ytgbncimfkjfjcaa.Crc

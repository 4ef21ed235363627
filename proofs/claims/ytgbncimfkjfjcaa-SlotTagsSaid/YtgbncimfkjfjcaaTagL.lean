/-
  What the printed functions of a key's tag answer, both ways; a key's slot, both ways. Plain lists. Conditions: none.
-/
import Derived.Test.YtgbncimfkjfjcaaSlotL
import Derived.Laws.Strings
namespace Go.Proofs.Ytgbncimfkjfjcaa.Pure
open Go.RowKit Go.Proofs.Ytgbncimfkjfjcaa.SX Go.Proofs.YtgbncimfkjfjcaaW.PrintWords Go.Proofs.YtgbncimfkjfjcaaW.PrintLast
/-- A text of these bytes. -/
def mk (L : List UInt8) : ByteArray := ⟨L.toArray⟩
theorem mk_data (L : List UInt8) : (mk L).data.toList = L := by unfold mk; simp
theorem mk_of (s : ByteArray) : s = mk s.data.toList := by unfold mk; simp
theorem mk_size (L : List UInt8) : (mk L).size = L.length := by rw [← ByteArray.size_data]; unfold mk; simp
theorem mk_toList (L : List UInt8) : (mk L).toList = L := by rw [ByteArray.toList_eq, mk_data]
theorem mk_append (A B : List UInt8) : mk A ++ mk B = mk (A ++ B) := by
  apply ByteArray.ext
  rw [ByteArray.data_append]
  unfold mk
  simp
theorem mk_extract (L : List UInt8) (i j : Nat) : (mk L).extract i j = mk ((L.drop i).take (j - i)) := by
  apply ByteArray.ext
  rw [ByteArray.data_extract]
  unfold mk
  rw [List.extract_toArray, List.extract_eq_take_drop]
theorem mk_bt (L : List UInt8) (i : Nat) (b : UInt8) (h : L[i]? = some b) : bt (mk L) (i : Int) = (b.toNat : Int) := by
  have hl : i < L.length := (List.getElem?_eq_some_iff.1 h).1
  rw [← rd_bytesOf]
  unfold rd bytesOf
  rw [mk_data, Int.toNat_natCast, List.getD_eq_getElem?_getD, List.getElem?_map, h]
  rfl
/-! ### The first byte of a kind -/
theorem ix_in (c : UInt8) (R : List UInt8) : ∀ A : List UInt8, c ∉ A → Lib.indexByte (A ++ c :: R) c = (A.length : Int)
  | [], _ => by simp [Lib.indexByte]
  | b :: A, h => by
    have hb : b ≠ c := fun e => h (by rw [e]; exact List.mem_cons_self)
    have ih := ix_in c R A (fun e => h (List.mem_cons_of_mem _ e))
    show (if b == c then 0 else if Lib.indexByte (A ++ c :: R) c == -1 then -1 else Lib.indexByte (A ++ c :: R) c + 1) = _
    have h1 : (b == c) = false := by simp [hb]
    have h2 : ((A.length : Int) == -1) = false := by rw [beq_eq_false_iff_ne]; omega
    rw [h1, ih, h2]
    simp
theorem ix_out (c : UInt8) : ∀ L : List UInt8, c ∉ L → Lib.indexByte L c = -1
  | [], _ => rfl
  | b :: A, h => by
    have hb : b ≠ c := fun e => h (by rw [e]; exact List.mem_cons_self)
    have ih := ix_out c A (fun e => h (List.mem_cons_of_mem _ e))
    show (if b == c then 0 else if Lib.indexByte A c == -1 then -1 else Lib.indexByte A c + 1) = _
    have h1 : (b == c) = false := by simp [hb]
    rw [h1, ih]
    rfl
/-! ### Cut -/
theorem idx_said (L : List UInt8) (c : UInt8) : stringslite_Index.f (mk L) (⟨#[c]⟩ : ByteArray) = some (Lib.indexByte L c) := by
  unfold stringslite_Index.f
  rw [if_pos (show (⟨#[c]⟩ : ByteArray).size = 1 from rfl), mk_data]
  rfl
theorem cut_in (A R : List UInt8) (c : UInt8) (h : c ∉ A) (hl : A.length + R.length < 1000000000) : strings_Cut.f (mk (A ++ c :: R)) (⟨#[c]⟩ : ByteArray) = some (mk A, mk R, true) := by
  have hs : (mk (A ++ c :: R)).size = A.length + (R.length + 1) := by rw [mk_size, List.length_append, List.length_cons]
  have hw : wrap64 ((A.length : Int) + ((1 : Nat) : Int)) = ((A.length + 1 : Nat) : Int) := by rw [wn (by omega) (by omega)]; omega
  have h1 : (⟨#[c]⟩ : ByteArray).size = 1 := rfl
  have d1 : (A.length : Int) ≥ 0 := by omega
  have d2 : (0 : Int) ≤ (A.length : Int) := by omega
  have d3 : (A.length : Int) ≤ ((A.length + (R.length + 1) : Nat) : Int) := by omega
  have d4 : (0 : Int) ≤ ((A.length + 1 : Nat) : Int) := by omega
  have d5 : ((A.length + 1 : Nat) : Int) ≤ ((A.length + (R.length + 1) : Nat) : Int) := by omega
  have e1 : (mk (A ++ c :: R)).extract 0 A.length = mk A := by rw [mk_extract, List.drop_zero, Nat.sub_zero, List.take_left]
  have e2 : (mk (A ++ c :: R)).extract (A.length + 1) (A.length + (R.length + 1)) = mk R := by
    rw [mk_extract]
    have : (A ++ c :: R).drop (A.length + 1) = R := by
      rw [show A ++ c :: R = (A ++ [c]) ++ R by simp, show A.length + 1 = (A ++ [c]).length by simp, List.drop_left]
    rw [this, List.take_of_length_le (by omega)]
  unfold strings_Cut.f stringslite_Cut.f
  rw [idx_said, ix_in c R A h, Option.bind_some, if_pos d1, if_pos d2, hs, if_pos d3, h1, hw, if_pos d4, if_pos d5, Int.toNat_natCast, Int.toNat_natCast, e1, e2]
  rfl
theorem cut_out (L : List UInt8) (c : UInt8) (h : c ∉ L) : strings_Cut.f (mk L) (⟨#[c]⟩ : ByteArray) = some (mk L, mk [], false) := by
  unfold strings_Cut.f stringslite_Cut.f
  rw [idx_said, ix_out c L h, Option.bind_some, if_neg (by decide)]
  rfl
/-! ### The tag, as the program has it -/
theorem tag_a (L : List UInt8) (h : (123 : UInt8) ∉ L) : slot_Tag.f (mk L) = some (mk L) := by
  unfold slot_Tag.f
  rw [cut_out L 123 h, Option.bind_some]
  show (strings_Cut.f (mk []) (⟨#[125]⟩ : ByteArray)).bind _ = _
  rw [cut_out [] 125 (by simp), Option.bind_some]
  rfl
theorem tag_b (A R : List UInt8) (hA : (123 : UInt8) ∉ A) (hR : (125 : UInt8) ∉ R) (hl : A.length + R.length < 1000000000) : slot_Tag.f (mk (A ++ 123 :: R)) = some (mk (A ++ 123 :: R)) := by
  unfold slot_Tag.f
  rw [cut_in A R 123 hA hl, Option.bind_some]
  show (strings_Cut.f (mk R) (⟨#[125]⟩ : ByteArray)).bind _ = _
  rw [cut_out R 125 hR, Option.bind_some]
  rfl
theorem tag_c (A T Z : List UInt8) (hA : (123 : UInt8) ∉ A) (hT : (125 : UInt8) ∉ T) (hl : A.length + (T.length + Z.length) < 100000000) : slot_Tag.f (mk (A ++ 123 :: (T ++ 125 :: Z))) = some (if T = [] then mk (A ++ 123 :: (T ++ 125 :: Z)) else mk T) := by
  unfold slot_Tag.f
  rw [cut_in A (T ++ 125 :: Z) 123 hA (by rw [List.length_append, List.length_cons]; omega), Option.bind_some]
  show (strings_Cut.f (mk (T ++ 125 :: Z)) (⟨#[125]⟩ : ByteArray)).bind _ = _
  rw [cut_in T Z 125 hT (by omega), Option.bind_some]
  show (if (true : Bool) = true then (if (true : Bool) = true then (if (mk T).toList = [] then some (mk (A ++ 123 :: (T ++ 125 :: Z))) else some (mk T)) else _) else _) = _
  rw [if_pos rfl, if_pos rfl, mk_toList]
  by_cases h : T = []
  · rw [if_pos h, if_pos h]
  · rw [if_neg h, if_neg h]
/-! ### The tag, as the document has it -/
theorem at_ne {L A : List UInt8} {c : UInt8} {R : List UInt8} (hL : L = A ++ R) (hA : c ∉ A) (i : Nat) (hi : i < A.length) : ∃ b, L[i]? = some b ∧ b ≠ c := by
  refine ⟨A[i], by rw [hL, List.getElem?_append_left hi, List.getElem?_eq_getElem hi], fun e => hA (e ▸ List.getElem_mem hi)⟩
theorem ne_int {b : UInt8} {c : UInt8} (h : b ≠ c) : ¬ (b.toNat : Int) = (c.toNat : Int) := fun e => h (UInt8.toNat.inj (by omega))
theorem rl0_skip (L : List UInt8) (hl : L.length < 1000000000) (n : Nat) (hn : n ≤ L.length) (hA : ∀ i, i < n → ∃ b, L[i]? = some b ∧ b ≠ 123) (r : ByteArray) (h : Ev (fun k => caravanref1_Tag.l0 k (mk L) (n : Int)) r) : ∀ d i, i + d = n → Ev (fun k => caravanref1_Tag.l0 k (mk L) (i : Int)) r
  | 0, i, e => by
    obtain rfl : i = n := e
    exact h
  | d + 1, i, e => by
    have ih := rl0_skip L hl n hn hA r h d (i + 1) (by omega)
    obtain ⟨b, hb, hne⟩ := hA i (by omega)
    have d1 : (i : Int) < ((mk L).size : Int) := by rw [mk_size]; omega
    have d2 : (0 : Int) ≤ (i : Int) := by omega
    refine Ev.step (fun k => ?_) ih
    show caravanref1_Tag.l0 (k + 1) (mk L) (i : Int) = caravanref1_Tag.l0 k (mk L) ((i + 1 : Nat) : Int)
    rw [caravanref1_Tag.l0, if_pos d1, if_pos d2, mk_bt L i b hb, if_neg (show ¬ (b.toNat : Int) = 123 from ne_int (c := 123) hne), w1 (by omega)]
theorem rl1_skip (L : List UInt8) (hl : L.length < 1000000000) (p n : Nat) (hn : n ≤ L.length) (hA : ∀ i, p < i → i < n → ∃ b, L[i]? = some b ∧ b ≠ 125) (r : ByteArray) (h : Ev (fun k => caravanref1_Tag.l1 k (mk L) (p : Int) (n : Int)) r) : ∀ d i, p < i → i + d = n → Ev (fun k => caravanref1_Tag.l1 k (mk L) (p : Int) (i : Int)) r
  | 0, i, _, e => by
    obtain rfl : i = n := e
    exact h
  | d + 1, i, hp, e => by
    have ih := rl1_skip L hl p n hn hA r h d (i + 1) (by omega) (by omega)
    obtain ⟨b, hb, hne⟩ := hA i hp (by omega)
    have d1 : (i : Int) < ((mk L).size : Int) := by rw [mk_size]; omega
    have d2 : (0 : Int) ≤ (i : Int) := by omega
    refine Ev.step (fun k => ?_) ih
    show caravanref1_Tag.l1 (k + 1) (mk L) (p : Int) (i : Int) = caravanref1_Tag.l1 k (mk L) (p : Int) ((i + 1 : Nat) : Int)
    rw [caravanref1_Tag.l1, if_pos d1, if_pos d2, mk_bt L i b hb, if_neg (show ¬ (b.toNat : Int) = 125 from ne_int (c := 125) hne), w1 (by omega)]
theorem rtag_a (L : List UInt8) (h : (123 : UInt8) ∉ L) (hl : L.length < 1000000000) : Ev (fun k => caravanref1_Tag.f k (mk L)) (mk L) := by
  refine rl0_skip L hl L.length (Nat.le_refl _) (fun i hi => at_ne (R := []) (List.append_nil L).symm h i hi) _ ?_ L.length 0 (Nat.zero_add _)
  refine Ev.step (f := fun _ => some (mk L)) (fun k => ?_) (Ev.now _)
  show caravanref1_Tag.l0 (k + 1) (mk L) (L.length : Int) = _
  rw [caravanref1_Tag.l0, if_neg (by rw [mk_size]; omega)]
/-- At the first one that opens. -/
theorem rtag_open (A R : List UInt8) (hA : (123 : UInt8) ∉ A) (hl : A.length + R.length < 100000000) (r : ByteArray) (h : Ev (fun k => caravanref1_Tag.l1 k (mk (A ++ 123 :: R)) (A.length : Int) ((A.length + 1 : Nat) : Int)) r) : Ev (fun k => caravanref1_Tag.f k (mk (A ++ 123 :: R))) r := by
  have hL : (A ++ 123 :: R).length = A.length + (R.length + 1) := by rw [List.length_append, List.length_cons]
  refine rl0_skip (A ++ 123 :: R) (by omega) A.length (by omega) (fun i hi => at_ne rfl hA i hi) _ ?_ A.length 0 (Nat.zero_add _)
  refine Ev.step (fun k => ?_) h
  have d1 : (A.length : Int) < ((mk (A ++ 123 :: R)).size : Int) := by rw [mk_size]; omega
  have d2 : (0 : Int) ≤ (A.length : Int) := by omega
  have hb : (A ++ 123 :: R)[A.length]? = some 123 := by rw [List.getElem?_append_right (Nat.le_refl _), Nat.sub_self]; rfl
  show caravanref1_Tag.l0 (k + 1) (mk (A ++ 123 :: R)) (A.length : Int) = _
  rw [caravanref1_Tag.l0, if_pos d1, if_pos d2, mk_bt _ A.length 123 hb, if_pos (by decide), w1 (by omega)]
theorem rtag_b (A R : List UInt8) (hA : (123 : UInt8) ∉ A) (hR : (125 : UInt8) ∉ R) (hl : A.length + R.length < 100000000) : Ev (fun k => caravanref1_Tag.f k (mk (A ++ 123 :: R))) (mk (A ++ 123 :: R)) := by
  have hL : (A ++ 123 :: R).length = A.length + (R.length + 1) := by rw [List.length_append, List.length_cons]
  refine rtag_open A R hA hl _ (rl1_skip (A ++ 123 :: R) (by omega) A.length (A.length + (R.length + 1)) (by omega) (fun i h1 h2 => ?_) _ ?_ R.length (A.length + 1) (by omega) (by omega))
  · refine ⟨R[i - (A.length + 1)]'(by omega), ?_, fun e => hR (e ▸ List.getElem_mem _)⟩
    rw [show A ++ 123 :: R = (A ++ [123]) ++ R by simp, List.getElem?_append_right (by simp; omega), List.getElem?_eq_getElem (by simp; omega)]
    simp
  · refine Ev.step (f := fun _ => some (mk (A ++ 123 :: R))) (fun k => ?_) (Ev.now _)
    show caravanref1_Tag.l1 (k + 1) (mk (A ++ 123 :: R)) (A.length : Int) ((A.length + (R.length + 1) : Nat) : Int) = _
    rw [caravanref1_Tag.l1, if_neg (by rw [mk_size]; omega)]
theorem rtag_c (A T Z : List UInt8) (hA : (123 : UInt8) ∉ A) (hT : (125 : UInt8) ∉ T) (hl : A.length + (T.length + Z.length) < 10000000) :
    Ev (fun k => caravanref1_Tag.f k (mk (A ++ 123 :: (T ++ 125 :: Z)))) (if T = [] then mk (A ++ 123 :: (T ++ 125 :: Z)) else mk T) := by
  have hR : (T ++ 125 :: Z).length = T.length + (Z.length + 1) := by rw [List.length_append, List.length_cons]
  have hL : (A ++ 123 :: (T ++ 125 :: Z)).length = A.length + (T.length + (Z.length + 1) + 1) := by rw [List.length_append, List.length_cons, hR]
  have hd : (A ++ 123 :: (T ++ 125 :: Z)).drop (A.length + 1) = T ++ 125 :: Z := by
    rw [show A ++ 123 :: (T ++ 125 :: Z) = (A ++ [123]) ++ (T ++ 125 :: Z) by simp, show A.length + 1 = (A ++ [(123 : UInt8)]).length by simp, List.drop_left]
  have hg : ∀ m, (A ++ 123 :: (T ++ 125 :: Z))[A.length + 1 + m]? = (T ++ 125 :: Z)[m]? := fun m => by
    have h9 : ((A ++ 123 :: (T ++ 125 :: Z)).drop (A.length + 1))[m]? = (A ++ 123 :: (T ++ 125 :: Z))[A.length + 1 + m]? := List.getElem?_drop
    rw [hd] at h9
    exact h9.symm
  refine rtag_open A _ hA (by omega) _ (rl1_skip _ (by omega) A.length (A.length + 1 + T.length) (by omega) (fun i h1 h2 => ?_) _ ?_ T.length (A.length + 1) (by omega) (by omega))
  · obtain ⟨m, rfl⟩ : ∃ m, i = A.length + 1 + m := ⟨i - (A.length + 1), by omega⟩
    obtain ⟨b, hb, hne⟩ := at_ne (R := 125 :: Z) rfl hT m (by omega)
    exact ⟨b, by rw [hg]; exact hb, hne⟩
  · have hb : (A ++ 123 :: (T ++ 125 :: Z))[A.length + 1 + T.length]? = some 125 := by rw [hg, List.getElem?_append_right (Nat.le_refl _), Nat.sub_self]; rfl
    have d1 : ((A.length + 1 + T.length : Nat) : Int) < ((mk (A ++ 123 :: (T ++ 125 :: Z))).size : Int) := by rw [mk_size]; omega
    have d2 : (0 : Int) ≤ ((A.length + 1 + T.length : Nat) : Int) := by omega
    have d3 : (0 : Int) ≤ ((A.length + 1 : Nat) : Int) := by omega
    have d4 : ((A.length + 1 : Nat) : Int) ≤ ((A.length + 1 + T.length : Nat) : Int) := by omega
    have d5 : ((A.length + 1 + T.length : Nat) : Int) ≤ ((mk (A ++ 123 :: (T ++ 125 :: Z))).size : Int) := by rw [mk_size]; omega
    have he : (mk (A ++ 123 :: (T ++ 125 :: Z))).extract (A.length + 1) (A.length + 1 + T.length) = mk T := by
      rw [mk_extract, hd, show A.length + 1 + T.length - (A.length + 1) = T.length by omega, List.take_left]
    refine Ev.step (f := fun _ => some (if T = [] then mk (A ++ 123 :: (T ++ 125 :: Z)) else mk T)) (fun k => ?_) (Ev.now _)
    show caravanref1_Tag.l1 (k + 1) (mk (A ++ 123 :: (T ++ 125 :: Z))) (A.length : Int) ((A.length + 1 + T.length : Nat) : Int) = _
    rw [caravanref1_Tag.l1, if_pos d1, if_pos d2, mk_bt _ _ 125 hb, if_pos (by decide), w1 (by omega)]
    by_cases h : T = []
    · rw [if_pos h, if_pos (by rw [h]; rfl)]
    · have h0 : T.length ≠ 0 := fun e => h (List.length_eq_zero_iff.1 e)
      rw [if_neg h, if_neg (by omega), if_pos d3, if_pos d4, if_pos d5, Int.toNat_natCast, Int.toNat_natCast, he]
/-! ### A key's tag and slot, both ways -/
/-- Both ways tell one tag. -/
theorem tag_both (s : ByteArray) (hs : s.size < 10000000) : ∃ t, slot_Tag.f s = some t ∧ Ev (fun k => caravanref1_Tag.f k s) t ∧ t.size ≤ s.size := by
  rw [mk_of s] at hs ⊢
  rw [mk_size] at hs ⊢
  generalize s.data.toList = L at hs ⊢
  by_cases h : (123 : UInt8) ∈ L
  · obtain ⟨A, R, rfl, hA⟩ := List.eq_append_cons_of_mem h
    rw [List.length_append, List.length_cons] at hs
    by_cases h2 : (125 : UInt8) ∈ R
    · obtain ⟨T, Z, rfl, hT⟩ := List.eq_append_cons_of_mem h2
      rw [List.length_append, List.length_cons] at hs
      refine ⟨_, tag_c A T Z hA hT (by omega), rtag_c A T Z hA hT (by omega), ?_⟩
      split
      · rw [mk_size]; exact Nat.le_refl _
      · rw [mk_size, List.length_append, List.length_cons, List.length_append]; omega
    · exact ⟨_, tag_b A R hA h2 (by omega), rtag_b A R hA h2 (by omega), by rw [mk_size]; exact Nat.le_refl _⟩
  · exact ⟨_, tag_a L h, rtag_a L h (by omega), by rw [mk_size]; exact Nat.le_refl _⟩
/-- The slot of a tag. -/
def slotOf (t : ByteArray) : Int := Int.tmod (sum t) 16384
theorem slotOf_range (t : ByteArray) : 0 ≤ slotOf t ∧ slotOf t < 16384 := by
  have h := sum_range t
  unfold slotOf
  rw [Int.tmod_eq_emod_of_nonneg h.1]
  omega
theorem of_ev {s t : ByteArray} (ht : slot_Tag.f s = some t) (hs : t.size < 1000000000) : Ev (fun k => slot_Of.f k s) (slotOf t) := by
  refine Ev.congr (f := fun k => (slot_Crc.f k (bytesOf t)).bind fun c => some (Int.tmod c 16384)) (fun k => ?_) (Ev.bind (sum_ev t hs) (Ev.now _))
  show slot_Of.f k s = _
  unfold slot_Of.f
  rw [ht, Option.bind_some, if_pos (by omega)]
theorem rslot_ev {s t : ByteArray} (ht : Ev (fun k => caravanref1_Tag.f k s) t) (hs : t.size < 1000000000) : Ev (fun k => caravanref1_Slot.f k s) (slotOf t) := by
  refine Ev.congr (f := fun k => (caravanref1_Tag.f k s).bind fun t112 => ((caravanref1_Crc.f k t112).bind fun t113 => (some (Int.tmod t113 16384)))) (fun k => ?_) (Ev.bind ht (Ev.bind (rsum_ev t hs) (Ev.now _)))
  show caravanref1_Slot.f k s = _
  unfold caravanref1_Slot.f
  rfl
/-- Both ways tell one slot. -/
theorem slot_both (s : ByteArray) (hs : s.size < 10000000) : ∃ n : Int, Ev (fun k => slot_Of.f k s) n ∧ Ev (fun k => caravanref1_Slot.f k s) n ∧ 0 ≤ n ∧ n < 16384 := by
  obtain ⟨t, h1, h2, h3⟩ := tag_both s hs
  have := slotOf_range t
  exact ⟨slotOf t, of_ev h1 (by omega), rslot_ev h2 (by omega), this.1, this.2⟩
end Go.Proofs.Ytgbncimfkjfjcaa.Pure

/-
  What the printed functions of many keys' slot answer, both ways. Plain lists. Conditions: none.
-/
import Derived.Test.YtgbncimfkjfjcaaTagL
import Derived.Test.YtgbncimfkjfjcaaSXx2
namespace Go.Proofs.Ytgbncimfkjfjcaa.Pure
open Go.RowKit Go.Proofs.Ytgbncimfkjfjcaa.SX Go.Proofs.YtgbncimfkjfjcaaW.PrintWords Go.Proofs.YtgbncimfkjfjcaaW.PrintLast Go.Proofs.YtgbncimfkjfjcaaW.PrintMore
theorem rdOf_nat (l : List ByteArray) (i : Nat) : rdOf ByteArray.empty l (i : Int) = l[i]?.getD ByteArray.empty := by
  unfold rdOf
  rw [Int.toNat_natCast, List.getD_eq_getElem?_getD]
/-- A key's slot: the one number that both ways tell. -/
theorem slot_one (s : ByteArray) (hs : s.size < 10000000) : ∃ n : Int, Ev (fun k => slot_Of.f k s) n ∧ Ev (fun k => caravanref1_Slot.f k s) n ∧ 0 ≤ n ∧ n < 16384 := slot_both s hs
/-- Is there one of another slot? -/
def Other (l : List ByteArray) (n : Int) : Prop := ∃ s ∈ l, ∃ m : Int, Ev (fun k => slot_Of.f k s) m ∧ m ≠ n
theorem ev_one {α : Type} {g : Nat → Option α} {a b : α} (h : Ev g a) (k : Ev g b) : a = b := by
  obtain ⟨K, h⟩ := h
  obtain ⟨K', k⟩ := k
  have h1 := h (max K K') (by omega)
  have h2 := k (max K K') (by omega)
  rw [h1] at h2
  exact Option.some.inj h2
theorem scan_ev (n : Int) : ∀ l : List ByteArray, (∀ s ∈ l, s.size < 10000000) → ∃ b : Bool, Ev (fun k => slot_One.scan k l n) b ∧ (b = true ↔ Other l n)
  | [], _ => ⟨false, ⟨0, fun _ _ => rfl⟩, by unfold Other; simp⟩
  | s :: r, h => by
    obtain ⟨m, hm, _, _, _⟩ := slot_one s (h s List.mem_cons_self)
    obtain ⟨b, hb, hi⟩ := scan_ev n r (fun x hx => h x (List.mem_cons_of_mem _ hx))
    have hf : ∀ k, slot_One.scan k (s :: r) n = (slot_Of.f k s).bind fun m => if m = n then slot_One.scan k r n else some true := fun k => rfl
    by_cases he : m = n
    · refine ⟨b, Ev.congr hf (Ev.bind hm (Ev.congr (fun k => if_pos he) hb)), hi.trans ⟨?_, ?_⟩⟩
      · rintro ⟨x, hx, y⟩
        exact ⟨x, List.mem_cons_of_mem _ hx, y⟩
      · rintro ⟨x, hx, m2, h2, h3⟩
        rcases List.mem_cons.mp hx with rfl | hx
        · exact absurd ((ev_one h2 hm).trans he) h3
        · exact ⟨x, hx, m2, h2, h3⟩
    · exact ⟨true, Ev.congr hf (Ev.bind hm (Ev.congr (fun k => if_neg he) (Ev.now true))), fun _ => ⟨s, List.mem_cons_self, m, hm, he⟩, fun _ => rfl⟩
theorem one_nil : Ev (fun k => slot_One.f k []) ((0 : Int), false) := ⟨0, fun _ _ => rfl⟩
theorem one_ev (s : ByteArray) (r : List ByteArray) (n : Int) (hl : r.length < 1000000) (hn : Ev (fun k => slot_Of.f k s) n) (hs : ∀ x ∈ s :: r, x.size < 10000000) :
    ∃ b : Bool, Ev (fun k => slot_One.f k (s :: r)) (if b = true then ((0 : Int), false) else (n, true)) ∧ (b = true ↔ Other (s :: r) n) := by
  obtain ⟨b, hb, hi⟩ := scan_ev n (s :: r) hs
  refine ⟨b, Ev.congr (f := fun k => (slot_Of.f k s).bind fun n => ((slot_One.scan k (s :: r) n).bind fun b => (if b = true then some (0, false) else some (n, true)))) (fun k => ?_) (Ev.bind hn (Ev.bind hb ?_)), hi⟩
  · show slot_One.f k (s :: r) = _
    unfold slot_One.f
    rw [if_neg (by rw [List.length_cons]; omega), if_pos (by rw [List.length_cons]; omega)]
    rfl
  · cases b with
    | true => exact Ev.now _
    | false => exact Ev.now _
/-- The document's way, from a place on. -/
theorem rone_l0 (l : List ByteArray) (n : Int) (hl : l.length < 1000000) (hs : ∀ x ∈ l, x.size < 10000000) : ∀ (d i : Nat), i + d = l.length →
    ∃ b : Bool, Ev (fun k => caravanref1_One.l0 k l n (i : Int)) (if b = true then -1 else n) ∧ (b = true ↔ Other (l.drop i) n)
  | 0, i, h => by
    refine ⟨false, Ev.step (f := fun _ => some n) (fun k => ?_) (Ev.now n), ?_⟩
    · show caravanref1_One.l0 (k + 1) l n (i : Int) = _
      rw [caravanref1_One.l0, if_neg (by omega)]
    · rw [List.drop_of_length_le (by omega)]
      unfold Other
      simp
  | d + 1, i, h => by
    obtain ⟨b, hb, hi⟩ := rone_l0 l n hl hs d (i + 1) (by omega)
    have hlt : i < l.length := by omega
    obtain ⟨m, hm, hr, _, _⟩ := slot_one l[i] (hs _ (List.getElem_mem hlt))
    have hd : l.drop i = l[i] :: l.drop (i + 1) := List.drop_eq_getElem_cons hlt
    have d1 : (i : Int) < (l.length : Int) := by omega
    have d2 : (0 : Int) ≤ (i : Int) := by omega
    have hg : l[i]?.getD ByteArray.empty = l[i] := by rw [List.getElem?_eq_getElem hlt]; rfl
    have hf : ∀ k, caravanref1_One.l0 (k + 1) l n (i : Int) = (caravanref1_Slot.f k l[i]).bind fun t => if t = n then caravanref1_One.l0 k l n ((i + 1 : Nat) : Int) else some (-1) := by
      intro k
      rw [caravanref1_One.l0, if_pos d1, if_pos d2, rdOf_nat, hg, w1 (by omega)]
    rw [hd]
    by_cases he : m = n
    · refine ⟨b, Ev.step hf (Ev.bind hr (Ev.congr (fun k => if_pos he) hb)), hi.trans ⟨?_, ?_⟩⟩
      · rintro ⟨x, hx, y⟩
        exact ⟨x, List.mem_cons_of_mem _ hx, y⟩
      · rintro ⟨x, hx, m2, h2, h3⟩
        rcases List.mem_cons.mp hx with rfl | hx
        · exact absurd ((ev_one h2 hm).trans he) h3
        · exact ⟨x, hx, m2, h2, h3⟩
    · exact ⟨true, Ev.step hf (Ev.bind hr (Ev.congr (fun k => if_neg he) (Ev.now _))), fun _ => ⟨l[i], List.mem_cons_self, m, hm, he⟩, fun _ => rfl⟩
theorem rone_nil : Ev (fun k => caravanref1_One.f k []) (-1 : Int) := ⟨0, fun _ _ => rfl⟩
theorem rone_ev (s : ByteArray) (r : List ByteArray) (n : Int) (hl : r.length < 100000) (hn : Ev (fun k => slot_Of.f k s) n) (hr : Ev (fun k => caravanref1_Slot.f k s) n) (hs : ∀ x ∈ s :: r, x.size < 10000000) :
    ∃ b : Bool, Ev (fun k => caravanref1_One.f k (s :: r)) (if b = true then -1 else n) ∧ (b = true ↔ Other (s :: r) n) := by
  obtain ⟨b, hb, hi⟩ := rone_l0 (s :: r) n (by rw [List.length_cons]; omega) hs r.length 1 (by rw [List.length_cons]; omega)
  refine ⟨b, Ev.congr (f := fun k => (caravanref1_Slot.f k s).bind fun t => caravanref1_One.l0 k (s :: r) t 1) (fun k => ?_) (Ev.bind hr hb), hi.trans ⟨?_, ?_⟩⟩
  · show caravanref1_One.f k (s :: r) = _
    unfold caravanref1_One.f
    rw [if_neg (by rw [List.length_cons]; omega), if_pos (by rw [List.length_cons]; omega)]
    rfl
  · rintro ⟨x, hx, y⟩
    exact ⟨x, List.mem_cons_of_mem _ hx, y⟩
  · rintro ⟨x, hx, m2, h2, h3⟩
    rcases List.mem_cons.mp hx with rfl | hx
    · exact absurd (ev_one h2 hn) h3
    · exact ⟨x, hx, m2, h2, h3⟩
end Go.Proofs.Ytgbncimfkjfjcaa.Pure

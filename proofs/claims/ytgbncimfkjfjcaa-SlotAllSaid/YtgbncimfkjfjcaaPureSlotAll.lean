/-
  The laws SlotAll and SlotKnown: both ways tell the same of every key; what all know. Conditions: none of their own.
-/
import Derived.Test.YtgbncimfkjfjcaaTagL
import Derived.Test.YtgbncimfkjfjcaaHand
namespace Go.Proofs.Ytgbncimfkjfjcaa.Pure
open Go.RowKit Go.Proofs.Ytgbncimfkjfjcaa.SX Go.Proofs.YtgbncimfkjfjcaaW.PrintWords Go.Proofs.YtgbncimfkjfjcaaW.PrintLast
theorem all_law (W : World) (key : ByteArray) (_ : key.size ≤ 140737488351232) : Calls Try.prog 4 #[.string key] W fun e w' => e = .returned (.bool true) ∧ Below W.heap.size W w' := by
  by_cases hs : key.size ≤ 1000
  · obtain ⟨t, ht1, ht2, htl⟩ := tag_both key (by omega)
    obtain ⟨K1, h1⟩ := sum_ev key (by omega)
    obtain ⟨K2, h2⟩ := rsum_ev key (by omega)
    have ht3 := ht2
    obtain ⟨K4, h4⟩ := ht2
    obtain ⟨K5, h5⟩ := of_ev ht1 (by omega)
    obtain ⟨K6, h6⟩ := rslot_ev ht3 (by omega)
    obtain ⟨K7, h7⟩ := awake_ev
    obtain ⟨k, hk⟩ : ∃ k, k = K1 + K2 + K4 + K5 + K6 + K7 := ⟨_, rfl⟩
    exact all_walk k key t (sum key) (slotOf t) hs (h1 k (by omega)) (h2 k (by omega)) ht1 (h4 k (by omega)) (h5 k (by omega)) (h6 k (by omega)) (h7 k (by omega)) W
  · exact all_walk_long key (by omega) W
theorem known_one (L : List UInt8) (n : Int) (h : (123 : UInt8) ∉ L) (hl : L.length < 1000) (hn : slotOf (mk L) = n) : Ev (fun k => slot_Of.f k (mk L)) n := by
  have := of_ev (tag_a L h) (by rw [mk_size]; omega)
  rwa [hn] at this
theorem known_law (W : World) (key : ByteArray) (_ : key.size ≤ 140737488351232) : Calls Try.prog 5 #[.string key] W fun e w' => e = .returned (.bool true) ∧ Below W.heap.size W w' := by
  obtain ⟨K7, h7⟩ := awake_ev
  by_cases hs : key.size ≤ 300
  · obtain ⟨t, ht1, ht2, htl⟩ := tag_both key (by omega)
    obtain ⟨K1, h1⟩ := of_ev ht1 (by omega)
    obtain ⟨K2, h2⟩ := known_one [102, 111, 111] 12182 (by decide) (by decide) (by decide +kernel)
    obtain ⟨K3, h3⟩ := known_one [98, 97, 114] 5061 (by decide) (by decide) (by decide +kernel)
    obtain ⟨K4, h4⟩ := known_one [104, 101, 108, 108, 111] 866 (by decide) (by decide) (by decide +kernel)
    obtain ⟨K5, h5⟩ := known_one [] 0 (by decide) (by decide) (by decide +kernel)
    obtain ⟨K6, h6⟩ := sum_ev t (by omega)
    have hr := slotOf_range t
    obtain ⟨k, hk⟩ : ∃ k, k = K1 + K2 + K3 + K4 + K5 + K6 + K7 := ⟨_, rfl⟩
    exact known_walk k key t (sum t) hs (h1 k (by omega)) (h2 k (by omega)) (h3 k (by omega)) (h4 k (by omega)) (h5 k (by omega)) hr.1 hr.2 ht1 (by omega) (h6 k (by omega)) (h7 k (by omega)) W
  · exact known_walk_long K7 key (by omega) (h7 K7 (Nat.le_refl _)) W
end Go.Proofs.Ytgbncimfkjfjcaa.Pure

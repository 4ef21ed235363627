/-
  What is read of arguments that come in, as plain lists: slices of whole numbers, of bools, of texts; slices of slices of whole numbers. Conditions: none.
-/
import Derived.Test.YtgbncimfkjfjcaaWWords
import Derived.Deep.Grids
import Derived.Deep.Matrix
import Derived.SliceStrings
import Derived.ChangeSlices
import Derived.Lib.SmallJoins
namespace Go.Proofs.Ytgbncimfkjfjcaa.Open
open Go.ChangeShapes Go.WideShapes Go.ChangeAt Go.RowKit Go.Proofs.YtgbncimfkjfjcaaW.PrintWords
set_option linter.unusedVariables false
variable {H : Type} {enc : TypeId × Value → H} {P : Program} {W : World}
theorem C_of_cells {α : Type} {f : α → Value} {h1 : ∀ x, (f x).oneCell' = true} (z : α) {a : Addr} {len : Nat} {xs : List α} (hl : len ≤ xs.length) (hm : len ≤ 9223372036854775807) (hc : ∀ i, i < xs.length → W.cell? (a.add i) = some (f (xs.getD i z))) : (Kd.scalar f h1).C W (some a) len (xs.take len) := by
  refine Kd.C_of_reads (d := z) ⟨by rw [List.length_take]; omega, hm, fun _ => ⟨a, rfl, fun j hj => ?_⟩⟩
  rw [hc j (by omega)]
  congr 2
  rw [List.getD_eq_getElem?_getD, List.getD_eq_getElem?_getD, List.getElem?_take, if_pos hj]
theorem ints {t e : TypeId} {k : IntKind} {a : Option Addr} {len cap : Nat} {d : DataW H} {ps : List MemPlace} (ht : P.underlying t = some (.slice e)) (he : P.underlying e = some (.int k)) (hc : P.cellsOf e = 1)
    (h : DataW.Trod enc P W 0 (fun _ => true) true t (.slice a len cap) d ps) : ∃ l : List Int, l.length = len ∧ (Kd.int k).C W a l.length l ∧ l.length ≤ cap ∧ cap ≤ 9223372036854775807 ∧ ∀ n ∈ l, (Lit.int k n).wf = true := by
  obtain ⟨fuel, hf⟩ := h
  rcases open_ints ht he hc hf with ⟨hcs, _⟩ | ⟨x, l, c, zs, hcs, _, hl, hm, hz, _, hcell, hwz⟩
  · simp [Value.cells] at hcs
    obtain ⟨rfl, rfl, rfl⟩ := hcs
    exact ⟨[], rfl, Kd.C_nil _ _, Nat.le_refl _, by omega, by simp⟩
  · simp [Value.cells] at hcs
    obtain ⟨rfl, rfl, rfl⟩ := hcs
    simp only [if_true] at hz
    unfold maxLen at hm
    have hlen : (zs.take len).length = len := by rw [List.length_take]; omega
    exact ⟨zs.take len, hlen, by rw [hlen]; exact C_of_cells (0 : Int) (by omega) (by omega) hcell, by omega, hm, fun n hn => hwz n (List.mem_of_mem_take hn)⟩
theorem bools {t e : TypeId} {a : Option Addr} {len cap : Nat} {d : DataW H} {ps : List MemPlace} (ht : P.underlying t = some (.slice e)) (he : P.underlying e = some .bool) (hc : P.cellsOf e = 1)
    (h : DataW.Trod enc P W 0 (fun _ => true) true t (.slice a len cap) d ps) : ∃ l : List Bool, l.length = len ∧ Kd.bool.C W a l.length l ∧ l.length ≤ cap ∧ cap ≤ 9223372036854775807 := by
  obtain ⟨fuel, hf⟩ := h
  rcases Go.Deep.open_bools ht he hc hf with ⟨hcs, _⟩ | ⟨x, l, c, B, hcs, _, hl, hm, _, hcell⟩
  · simp [Value.cells] at hcs
    obtain ⟨rfl, rfl, rfl⟩ := hcs
    exact ⟨[], rfl, Kd.C_nil _ _, Nat.le_refl _, by omega⟩
  · simp [Value.cells] at hcs
    obtain ⟨rfl, rfl, rfl⟩ := hcs
    unfold maxLen at hm
    have hlen : ((List.range len).map B).length = len := by rw [List.length_map, List.length_range]
    have hcl : ∀ i, i < ((List.range len).map B).length → W.cell? (x.add i) = some (.bool (((List.range len).map B).getD i false)) := by
      intro i hi
      rw [hlen] at hi
      rw [hcell i (by omega)]
      simp [List.getD_eq_getElem?_getD, hi]
    have := C_of_cells (f := Value.bool) (h1 := fun _ => rfl) false (Nat.le_of_eq hlen.symm) (by omega) hcl
    rw [List.take_of_length_le (Nat.le_of_eq hlen)] at this
    exact ⟨(List.range len).map B, hlen, by rw [hlen]; exact this, by omega, hm⟩
theorem strings {t e : TypeId} {a : Option Addr} {len cap : Nat} {d : DataW H} {ps : List MemPlace} (ht : P.underlying t = some (.slice e)) (he : P.underlying e = some .string) (hc : P.cellsOf e = 1)
    (h : DataW.Trod enc P W 0 (fun _ => true) true t (.slice a len cap) d ps) : ∃ l : List ByteArray, l.length = len ∧ Kd.string.C W a l.length l ∧ l.length ≤ cap ∧ cap ≤ 9223372036854775807 ∧ ∀ s ∈ l, s.size ≤ 9223372036854775807 := by
  obtain ⟨fuel, hf⟩ := h
  rcases open_strings ht he hc hf with ⟨hcs, _⟩ | ⟨x, l, c, zs, hcs, _, hl, hm, hz, _, hcell, hwz⟩
  · simp [Value.cells] at hcs
    obtain ⟨rfl, rfl, rfl⟩ := hcs
    exact ⟨[], rfl, Kd.C_nil _ _, Nat.le_refl _, by omega, by simp⟩
  · simp [Value.cells] at hcs
    obtain ⟨rfl, rfl, rfl⟩ := hcs
    simp only [if_true] at hz
    unfold maxLen at hm
    have hlen : (zs.take len).length = len := by rw [List.length_take]; omega
    exact ⟨zs.take len, hlen, by rw [hlen]; exact C_of_cells ByteArray.empty (by omega) (by omega) hcell, by omega, hm, fun n hn => hwz n (List.mem_of_mem_take hn)⟩
end Go.Proofs.Ytgbncimfkjfjcaa.Open

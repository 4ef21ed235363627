/-
  What is read of arguments that come in, as plain lists: slices of whole numbers, of bools, of texts; slices of slices of whole numbers. Conditions: none.
-/
import Derived.Test.YtbjpopooijhpdaaWWords
import Derived.Deep.Grids
import Derived.Deep.Matrix
import Derived.SliceStrings
import Derived.ChangeSlices
import Derived.Lib.SmallJoins
namespace Go.Proofs.Ytbjpopooijhpdaa.Open
open Go.ChangeShapes Go.WideShapes Go.ChangeAt Go.RowKit Go.Proofs.YtbjpopooijhpdaaW.PrintWords
set_option linter.unusedVariables false
variable {H : Type} {enc : TypeId × Value → H} {P : Program} {W : World}
theorem C_of_cells {α : Type} {f : α → Value} {h1 : ∀ x, (f x).oneCell' = true} (z : α) {a : Addr} {len : Nat} {xs : List α} (hl : len ≤ xs.length) (hm : len ≤ 9223372036854775807) (hc : ∀ i, i < xs.length → W.cell? (a.add i) = some (f (xs.getD i z))) : (Kd.scalar f h1).C W (some a) len (xs.take len) := by
  refine Kd.C_of_reads (d := z) ⟨by rw [List.length_take]; omega, hm, fun _ => ⟨a, rfl, fun j hj => ?_⟩⟩
  rw [hc j (by omega)]
  congr 2
  rw [List.getD_eq_getElem?_getD, List.getD_eq_getElem?_getD, List.getElem?_take, if_pos hj]
theorem ints {t e : TypeId} {k : IntKind} {a : Option Addr} {len cap : Nat} {d : DataW H} {ps : List MemPlace} (ht : P.underlying t = some (.slice e)) (he : P.underlying e = some (.int k)) (hc : P.cellsOf e = 1)
    (h : DataW.Trod enc P W 0 (fun _ => true) true t (.slice a len cap) d ps) : ∃ l : List Int, l.length = len ∧ (Kd.int k).C W a l.length l ∧ l.length ≤ cap ∧ cap ≤ 9223372036854775807 ∧ ∀ n ∈ l, (Lit.int k n).wf = true := by
  obtain ⟨fuel, hf⟩ := h
  rcases open_ints ht he hc hf with ⟨hcs, _⟩ | ⟨x, l, c, zs, hcs, _, hl, hm, hz, _, hcell, hwz⟩
  · simp [Value.cells] at hcs
    obtain ⟨rfl, rfl, rfl⟩ := hcs
    exact ⟨[], rfl, Kd.C_nil _ _, Nat.le_refl _, by omega, by simp⟩
  · simp [Value.cells] at hcs
    obtain ⟨rfl, rfl, rfl⟩ := hcs
    simp only [if_true] at hz
    unfold maxLen at hm
    have hlen : (zs.take len).length = len := by rw [List.length_take]; omega
    exact ⟨zs.take len, hlen, by rw [hlen]; exact C_of_cells (0 : Int) (by omega) (by omega) hcell, by omega, hm, fun n hn => hwz n (List.mem_of_mem_take hn)⟩
theorem bools {t e : TypeId} {a : Option Addr} {len cap : Nat} {d : DataW H} {ps : List MemPlace} (ht : P.underlying t = some (.slice e)) (he : P.underlying e = some .bool) (hc : P.cellsOf e = 1)
    (h : DataW.Trod enc P W 0 (fun _ => true) true t (.slice a len cap) d ps) : ∃ l : List Bool, l.length = len ∧ Kd.bool.C W a l.length l ∧ l.length ≤ cap ∧ cap ≤ 9223372036854775807 := by
  obtain ⟨fuel, hf⟩ := h
  rcases Go.Deep.open_bools ht he hc hf with ⟨hcs, _⟩ | ⟨x, l, c, B, hcs, _, hl, hm, _, hcell⟩
  · simp [Value.cells] at hcs
    obtain ⟨rfl, rfl, rfl⟩ := hcs
    exact ⟨[], rfl, Kd.C_nil _ _, Nat.le_refl _, by omega⟩
  · simp [Value.cells] at hcs
    obtain ⟨rfl, rfl, rfl⟩ := hcs
    unfold maxLen at hm
    have hlen : ((List.range len).map B).length = len := by rw [List.length_map, List.length_range]
    have hcl : ∀ i, i < ((List.range len).map B).length → W.cell? (x.add i) = some (.bool (((List.range len).map B).getD i false)) := by
      intro i hi
      rw [hlen] at hi
      rw [hcell i (by omega)]
      simp [List.getD_eq_getElem?_getD, hi]
    have := C_of_cells (f := Value.bool) (h1 := fun _ => rfl) false (Nat.le_of_eq hlen.symm) (by omega) hcl
    rw [List.take_of_length_le (Nat.le_of_eq hlen)] at this
    exact ⟨(List.range len).map B, hlen, by rw [hlen]; exact this, by omega, hm⟩
theorem strings {t e : TypeId} {a : Option Addr} {len cap : Nat} {d : DataW H} {ps : List MemPlace} (ht : P.underlying t = some (.slice e)) (he : P.underlying e = some .string) (hc : P.cellsOf e = 1)
    (h : DataW.Trod enc P W 0 (fun _ => true) true t (.slice a len cap) d ps) : ∃ l : List ByteArray, l.length = len ∧ Kd.string.C W a l.length l ∧ l.length ≤ cap ∧ cap ≤ 9223372036854775807 ∧ ∀ s ∈ l, s.size ≤ 9223372036854775807 := by
  obtain ⟨fuel, hf⟩ := h
  rcases open_strings ht he hc hf with ⟨hcs, _⟩ | ⟨x, l, c, zs, hcs, _, hl, hm, hz, _, hcell, hwz⟩
  · simp [Value.cells] at hcs
    obtain ⟨rfl, rfl, rfl⟩ := hcs
    exact ⟨[], rfl, Kd.C_nil _ _, Nat.le_refl _, by omega, by simp⟩
  · simp [Value.cells] at hcs
    obtain ⟨rfl, rfl, rfl⟩ := hcs
    simp only [if_true] at hz
    unfold maxLen at hm
    have hlen : (zs.take len).length = len := by rw [List.length_take]; omega
    exact ⟨zs.take len, hlen, by rw [hlen]; exact C_of_cells ByteArray.empty (by omega) (by omega) hcell, by omega, hm, fun n hn => hwz n (List.mem_of_mem_take hn)⟩
/-- A slice of slices of whole numbers. -/
theorem rows {t e q : TypeId} {k : IntKind} {fuel : Nat} {v : Value} {y : DataW H × List MemPlace} (ht : P.underlying t = some (.slice e)) (he : P.underlying e = some (.slice q)) (hq : P.underlying q = some (.int k)) (ce : P.cellsOf e = 1) (cq : P.cellsOf q = 1)
    (h : DataW.trod enc P W 0 (fun _ => true) true fuel t [v] = some y) : ∃ (a : Option Addr) (cap : Nat) (l : List (List Int)), v = .slice a l.length cap ∧ (Kd.slice q (Kd.int k)).C W a l.length l ∧ l.length ≤ cap ∧ cap ≤ 9223372036854775807 := by
  rcases Go.Deep.open_int_rows ht he hq ce cq h with ⟨hcs, _⟩ | ⟨x, len, cap, A, L, C, Z, hcs, _, hl, hm, _, hr⟩
  · simp at hcs
    subst hcs
    exact ⟨none, 0, [], rfl, Kd.C_nil _ _, Nat.le_refl _, by omega⟩
  · simp at hcs
    subst hcs
    unfold maxLen at hm
    have hlen : ((List.range len).map fun r => (Z r).take (L r)).length = len := by rw [List.length_map, List.length_range]
    refine ⟨some x, cap, (List.range len).map fun r => (Z r).take (L r), by rw [hlen], ?_, by rw [hlen]; exact hl, hm⟩
    refine ⟨rfl, by rw [hlen]; omega, fun _ => ⟨x, rfl, fun j p hj => ?_⟩⟩
    have hjl : j < len := by
      have := (List.getElem?_eq_some_iff.1 hj).1
      rwa [hlen] at this
    rw [List.getElem?_map, List.getElem?_range hjl] at hj
    simp only [Option.map_some, Option.some.injEq] at hj
    subst hj
    obtain ⟨hc, h1, h2, h3, h4, h5, h6⟩ := hr j (by omega)
    have hL : ((Z j).take (L j)).length = L j := by rw [List.length_take]; omega
    refine ⟨[.slice (A j) (L j) (C j)], rfl, ⟨A j, C j, by rw [hL], by rw [hL]; exact h1, ?_⟩, fun m u hu => ?_⟩
    · rw [hL]
      cases hA : A j with
      | none =>
        have hz : L j = 0 := by have := h5 hA; omega
        rw [hz]
        exact Kd.C_nil _ _
      | some a' =>
        have hcell := (h6 a' hA).2
        unfold maxLen at h2
        exact C_of_cells (f := Value.int k) (h1 := fun _ => rfl) (0 : Int) (by omega) (by omega) (fun i hi => hcell i (by omega))
    · cases m with
      | zero =>
        simp at hu
        subst hu
        show W.cell? (x.add (j * 1 + 0)) = _
        rw [Nat.mul_one, Nat.add_zero]
        exact hc
      | succ m => simp at hu
/-- A struct of a slice of whole numbers and a slice of such slices. -/
theorem watch {r : Reach} {b0 : Nat} {t t0 e0 t1 e1 : TypeId} {f0 f1 : Field} {k : IntKind} {v : Value} {d : DataW H} {ps : List MemPlace} (hs : P.underlying t = some (.struct #[f0, f1])) (h0t : P.underlying t0 = some (.slice e0)) (h0e : P.underlying e0 = some (.int k)) (h1t : P.underlying t1 = some (.slice e1)) (h1e : P.underlying e1 = some (.slice e0))
    (hf0 : f0.type = t0) (hf1 : f1.type = t1) (hone : Go.Deep.oneCellFields P #[f0, f1] = true) (hC : P.cellsOf t = 2) (hc : P.cellsOf e0 = 1 ∧ P.cellsOf e1 = 1) (hv : Value.okWide P W r b0 t v) (h : DataW.Trod enc P W 0 (fun _ => true) true t v d ps) :
    ∃ (A0 : Option Addr) (c0 : Nat) (l0 : List Int) (A1 : Option Addr) (c1 : Nat) (l1 : List (List Int)), v = .agg #[.slice A0 l0.length c0, .slice A1 l1.length c1] ∧ (Kd.int k).C W A0 l0.length l0 ∧ l0.length ≤ c0 ∧ c0 ≤ 9223372036854775807 ∧ (Kd.slice e0 (Kd.int k)).C W A1 l1.length l1 ∧ l1.length ≤ c1 ∧ c1 ≤ 9223372036854775807 := by
  obtain ⟨v0, v1, y0, y1, n, rfl, _, _, g0, g1⟩ := Go.Joins.open_agg2 hs hone hC hv h
  rw [hf0] at g0
  rw [hf1] at g1
  obtain ⟨A1, c1, l1, rfl, k1, k2, k3⟩ := rows h1t h1e h0e hc.2 hc.1 g1
  rcases open_ints h0t h0e hc.1 g0 with ⟨hcs, _⟩ | ⟨x, len, cap, zs, hcs, _, hl, hm, hz, _, hcell, hwz⟩
  · simp at hcs
    subst hcs
    exact ⟨none, 0, [], A1, c1, l1, rfl, Kd.C_nil _ _, Nat.le_refl _, by omega, k1, k2, k3⟩
  · simp at hcs
    subst hcs
    simp only [if_true] at hz
    unfold maxLen at hm
    have hlen : (zs.take len).length = len := by rw [List.length_take]; omega
    exact ⟨some x, cap, zs.take len, A1, c1, l1, by rw [hlen], by rw [hlen]; exact C_of_cells (0 : Int) (by omega) (by omega) hcell, by omega, hm, k1, k2, k3⟩
end Go.Proofs.Ytbjpopooijhpdaa.Open

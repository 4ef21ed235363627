/-
  list.Rem, proved by hand: a range over slices.All or slices.Backward that collects places, then a loop that leaves these out. Conditions: a row of less than 8796093022208 texts.
-/
import Derived.Test.YtheooomdhbleeaaIter
namespace Go.Proofs.Ytheooomdhbleeaa.Rem
open Go.RowKit Go.Shelf Go.Proofs.YtheooomdhbleeaaW.PrintWords Go.Proofs.YtheooomdhbleeaaW.PrintLast Go.Proofs.YtheooomdhbleeaaW.PrintMore
set_option linter.unusedVariables false
set_option linter.unusedSimpArgs false
attribute [local go_sem] Oper.semAt_some
/-- Has enough been found? -/
def full (n : Int) (g : List Int) : Bool := (decide (0 < n) && decide ((g.length : Int) = n)) || (decide (n < 0) && decide (-(g.length : Int) = n))
def step (n : Int) (v : ByteArray) (g : List Int) (x : Nat × ByteArray) : List Int := if full n g = true then g else if x.2.toList = v.toList then g ++ [(x.1 : Int)] else g
def goneOf (n : Int) (v : ByteArray) (pre : List (Nat × ByteArray)) : List Int := pre.foldl (step n v) []
def seqOf (l : List ByteArray) (n : Int) : List (Nat × ByteArray) := if n < 0 then upto l (fun j => l.length - 1 - j) l.length else upto l (fun j => j) l.length
def gone (l : List ByteArray) (n : Int) (v : ByteArray) : List Int := goneOf n v (seqOf l n)
def outFrom (g : List Int) : Nat → List ByteArray → List ByteArray
  | _, [] => []
  | i, s :: r => if (i : Int) ∈ g then outFrom g (i + 1) r else s :: outFrom g (i + 1) r
def out (l : List ByteArray) (n : Int) (v : ByteArray) : List ByteArray := outFrom (gone l n v) 0 l
theorem goneOf_snoc (n : Int) (v : ByteArray) (pre : List (Nat × ByteArray)) (x : Nat × ByteArray) : goneOf n v (pre ++ [x]) = step n v (goneOf n v pre) x := by simp [goneOf]
theorem step_full {n : Int} {v : ByteArray} {g : List Int} (h : full n g = true) (x : Nat × ByteArray) : step n v g x = g := if_pos h
theorem foldl_full {n : Int} {v : ByteArray} {g : List Int} (h : full n g = true) : ∀ xs : List (Nat × ByteArray), xs.foldl (step n v) g = g
  | [] => rfl
  | x :: xs => by rw [List.foldl_cons, step_full h, foldl_full h xs]
theorem goneOf_full {n : Int} {v : ByteArray} {pre : List (Nat × ByteArray)} (h : full n (goneOf n v pre) = true) (xs : List (Nat × ByteArray)) : goneOf n v (pre ++ xs) = goneOf n v pre := by
  unfold goneOf at h ⊢
  rw [List.foldl_append, foldl_full h]
theorem step_le (n : Int) (v : ByteArray) (g : List Int) (x : Nat × ByteArray) : (step n v g x).length ≤ g.length + 1 := by
  unfold step
  split
  · omega
  · split
    · simp
    · omega
theorem goneOf_le (n : Int) (v : ByteArray) (pre : List (Nat × ByteArray)) : (goneOf n v pre).length ≤ pre.length := by
  have h : ∀ (xs : List (Nat × ByteArray)) (g : List Int), (xs.foldl (step n v) g).length ≤ g.length + xs.length := by
    intro xs
    induction xs with
    | nil => intro g; simp
    | cons x xs ih => intro g; have := ih (step n v g x); have := step_le n v g x; simp only [List.foldl_cons, List.length_cons]; omega
  have := h pre []
  simpa [goneOf] using this
theorem upto_split (l : List ByteArray) (f : Nat → Nat) (m k : Nat) (hk : k ≤ m) : ∃ xs, upto l f m = upto l f k ++ xs := by
  induction m with
  | zero => exact ⟨[], by obtain rfl : k = 0 := by omega
                          simp⟩
  | succ m ih =>
    rcases Nat.lt_or_ge k (m + 1) with h | h
    · obtain ⟨xs, hx⟩ := ih (by omega)
      exact ⟨xs ++ [(f m, l[f m]?.getD ByteArray.empty)], by rw [upto_succ, hx, List.append_assoc]⟩
    · obtain rfl : k = m + 1 := by omega
      exact ⟨[], by simp⟩

theorem outFrom_append (g : List Int) : ∀ (xs : List ByteArray) (i : Nat) (s : ByteArray), outFrom g i (xs ++ [s]) = outFrom g i xs ++ (if ((i + xs.length : Nat) : Int) ∈ g then [] else [s])
  | [], i, s => by
    show (if (i : Int) ∈ g then outFrom g (i + 1) [] else s :: outFrom g (i + 1) []) = _
    by_cases h : (i : Int) ∈ g
    · simp [outFrom, h]
    · simp [outFrom, h]
  | x :: xs, i, s => by
    have ih := outFrom_append g xs (i + 1) s
    have e : i + 1 + xs.length = i + (x :: xs).length := by simp only [List.length_cons]; omega
    rw [e] at ih
    show (if (i : Int) ∈ g then outFrom g (i + 1) (xs ++ [s]) else x :: outFrom g (i + 1) (xs ++ [s])) = _
    rw [ih]
    show _ = (if (i : Int) ∈ g then outFrom g (i + 1) xs else x :: outFrom g (i + 1) xs) ++ _
    by_cases h : (i : Int) ∈ g
    · rw [if_pos h, if_pos h]
    · rw [if_neg h, if_neg h, List.cons_append]
theorem outFrom_le (g : List Int) : ∀ (i : Nat) (xs : List ByteArray), (outFrom g i xs).length ≤ xs.length
  | _, [] => Nat.le_refl _
  | i, x :: xs => by
    have ih := outFrom_le g (i + 1) xs
    show (if (i : Int) ∈ g then outFrom g (i + 1) xs else x :: outFrom g (i + 1) xs).length ≤ _
    split
    · simp only [List.length_cons]; omega
    · simp only [List.length_cons]; omega
theorem take_at {l : List ByteArray} {k : Nat} {s : ByteArray} (hk : k < l.length) (hs : l[k]?.getD ByteArray.empty = s) : l.take (k + 1) = l.take k ++ [s] := by
  rw [List.getElem?_eq_getElem hk] at hs
  rw [List.take_add_one, List.getElem?_eq_getElem hk, ← hs]
  rfl

/-- What lies in the function's own boxes between two rounds. -/
def Mid (w : World) (n : Int) (v : ByteArray) (pre : List (Nat × ByteArray)) (W : World) : Prop :=
  (Boxed W w.heap.size 3 (.int .i64 n) ∧ Boxed W (w.heap.size + 1) 9 (.string v)) ∧ (∃ g, Boxed W (w.heap.size + 2) 46 g ∧ W.ownsRow (w.heap.size + 1) 3 1 g (goneOf n v pre).length (encs (Value.int .i64) (goneOf n v pre)) ∧ True)
def MidB (w : World) (n : Int) (v : ByteArray) (pre : List (Nat × ByteArray)) (W : World) : Prop := Mid w n v pre W ∧ Below w.heap.size w W
theorem Mid.own (w : World) (n : Int) (v : ByteArray) : Own (fun pre W => Mid w n v pre W) := fun s X Y row hs hg hr =>
  ⟨⟨boxed_own w.heap.size 3 (fun _ : Unit => .int .i64 n) () X Y row hs.1.1 hg hr, boxed_own (w.heap.size + 1) 9 (fun _ : Unit => .string v) () X Y row hs.1.2 hg hr⟩,
    holdsRow_own (w.heap.size + 1) (w.heap.size + 2) 46 3 1 (fun pre => (goneOf n v pre).length) (fun pre => encs (Value.int .i64) (goneOf n v pre)) (fun _ _ => True) s X Y row hs.2 hg hr⟩
theorem info3 : (Try.prog.info? 3).map (fun i => (i.zero, i.size, i.bytes)) = some (some (.int .i64 0), 1, 8) := by kernel_rfl

set_option maxRecDepth 100000 in
set_option maxHeartbeats 4000000 in
theorem rem_calls (hCon : ∀ (A : Option Addr) (c : Nat) (g : List Int) (a : Int) (w : World), Kd.C (Kd.int .i64) w A g.length g → g.length ≤ c → g.length < 8796093022208 → Calls Try.prog 23 #[.slice A g.length c, .int .i64 a] w fun e w' => e = .returned (.bool (decide (a ∈ g))) ∧ Drawn0 w w')
    (A0 : Option Addr) (c0 : Nat) (l0 : List ByteArray) (a1 : Int) (a2 : ByteArray) (w : World) (hr0 : Kd.C Kd.string w A0 l0.length l0) (hl : l0.length < 8796093022208) :
    Calls Try.prog 10 #[.slice A0 l0.length c0, .int .i64 a1, .string a2] w fun e w' => ∃ v0_ : Value, e = .returned (.tuple #[v0_, .int .i64 ((gone l0 a1 a2).length : Int)]) ∧ Kd.R Kd.string 9 w' w.heap.size (fun _ => True) v0_ (out l0 a1 a2) ∧ Below w.heap.size w w' := by
  obtain ⟨i0, hi, hz0, hz1, hz2⟩ := info_parts info3
  have HCON := Aside0.mk hCon
  have HR0 := Aside0.mk hr0
  have HL := Aside0.mk hl
  clear hCon hr0 hl
  refine (callsIn_wide (n := 9)).1 (callsIn_of_wp_marks Try.func10 rfl trivial ?_ rfl)
  refine wpIn_wide.2 ?_
  simp only [Try.ntmps10, List.size_toArray, List.length_cons, List.length_nil, Nat.reduceAdd, Nat.reduceSub, Array.replicate_succ, Array.replicate_zero, List.push_toArray, List.append_toArray, List.nil_append, List.cons_append]
  by_cases hneg : a1 < 0
  · have cn : decide (a1 < 0) = true := decide_eq_true hneg
    have hsq : seqOf l0 a1 = upto l0 (fun j => l0.length - 1 - j) l0.length := if_pos hneg
    go_upto_block 0 with (go_at_call 22; refine (walk_true _ _ _ _).mono ?_; rintro e w1 ⟨rfl, rfl⟩)
    rename_i Q' K hK
    have b0 := Boxed.new w 3 (.int .i64 a1)
    have b1 := Boxed.new (w.alloc (.cells #[.int .i64 a1] 3)) 9 (.string a2)
    have b2 := Boxed.new ((w.alloc (.cells #[.int .i64 a1] 3)).alloc (.cells #[.string a2] 9)) 46 (.slice none 0 0)
    have b3 := Boxed.new (((w.alloc (.cells #[.int .i64 a1] 3)).alloc (.cells #[.string a2] 9)).alloc (.cells #[.slice none 0 0] 46)) 25 (.slice A0 l0.length c0)
    simp only [World.size_alloc] at b1 b2 b3
    have hB0 : Below w.heap.size w ((((w.alloc (.cells #[.int .i64 a1] 3)).alloc (.cells #[.string a2] 9)).alloc (.cells #[.slice none 0 0] 46)).alloc (.cells #[.slice A0 l0.length c0] 25)) := ((((Below.refl _ w).alloc (Nat.le_refl _) _).alloc (by simp) _).alloc (by simp only [World.size_alloc]; omega) _).alloc (by simp only [World.size_alloc]; omega) _
    obtain ⟨W0, hW0⟩ : ∃ W0, ((((w.alloc (.cells #[.int .i64 a1] 3)).alloc (.cells #[.string a2] 9)).alloc (.cells #[.slice none 0 0] 46)).alloc (.cells #[.slice A0 l0.length c0] 25)) = W0 := ⟨_, rfl⟩
    have hsz : W0.heap.size = w.heap.size + 4 := by rw [← hW0]; simp only [World.size_alloc]
    have c0' : Boxed W0 w.heap.size 3 (.int .i64 a1) := hW0 ▸ ((b0.alloc _).alloc _).alloc _
    have c1' : Boxed W0 (w.heap.size + 1) 9 (.string a2) := hW0 ▸ (b1.alloc _).alloc _
    have c2' : Boxed W0 (w.heap.size + 2) 46 (.slice none 0 0) := hW0 ▸ b2.alloc _
    have c3' : Boxed W0 (w.heap.size + 1 + 1 + 1) 25 (.slice A0 l0.length c0) := hW0 ▸ b3
    rw [hW0] at hB0 ⊢
    clear b0 b1 b2 b3 hW0
    refine wp_mono (Q := fun e a' W => e = .normal ∧ ∃ D, a' = { tmps := #[.slice A0 l0.length c0, .int .i64 a1, .string a2, undef, .pointer (some ⟨w.heap.size, 0, none⟩), .pointer (some ⟨w.heap.size + 1, 0, none⟩), .slice none 0 0, .int .i64 0, .pointer (some ⟨w.heap.size + 1 + 1, 0, none⟩), undef, undef, undef, undef, undef, .slice A0 l0.length c0, .int .i64 a1, .bool true, .func (.func 35) #[] #[.pointer (some ⟨w.heap.size + 1 + 1 + 1, 0, none⟩)], undef, undef, undef, undef, undef, undef, undef, undef, undef, undef, undef, undef, undef, undef, undef, undef, undef, undef, undef, undef, undef, undef, undef, undef, undef, undef, undef, undef, undef, undef, undef, undef, undef, undef, undef, undef, undef, undef, undef, undef, undef, undef, undef, undef, undef, undef, undef], defers := [{ target := .collected D, args := #[] }] } ∧ w.heap.size ≤ D ∧ W.heap[D]? = some (.deferred (some [])) ∧ MidB w a1 a2 (seqOf l0 a1) W) ?_ ?_
    · refine wp_block ?_
      refine (wpIn_wide (n := 9)).1 ?_
      refine wpIn_rangeFunc_ownG (F := Fence.wide) (n := 9) rfl (by omega) (gf := 35) (lb := #[.pointer (some ⟨w.heap.size + 1 + 1 + 1, 0, none⟩)]) rfl trivial (enters_of Try.func35 (by kernel_rfl) rfl)
        (back_stops Fence.wide 8 trivial rfl (by omega) (w.heap.size + 1 + 1 + 1) c0 A0 l0 w W0 HR0.out HL.out c3' hB0) Kp.trans (Kp_b (by rw [hsz]; omega)) (Below.refl _ _) (fun _ => rfl)
        (fun pre W => MidB w a1 a2 pre W) (fun c pre W => c = .exit 0 ∧ full a1 (goneOf a1 a2 pre) = true ∧ MidB w a1 a2 pre W)
        (OwnFrom.and (Own.from (Mid.own w a1 a2) _) (ownFrom_below (Nat.le_refl _) (by rw [hsz]; omega)))
        (fun c s A B row hs hg hr => ⟨hs.1, hs.2.1, (OwnFrom.and (Own.from (Mid.own w a1 a2) _) (ownFrom_below (Nat.le_refl _) (by rw [hsz]; omega))) s A B row hs.2.2 hg hr⟩)
        ⟨⟨⟨c0', c1'⟩, _, c2', World.ownsRow_nil _ _ _ _, trivial⟩, hB0⟩
        (fun x => { tmps := #[.slice A0 l0.length c0, .int .i64 a1, .string a2, undef, .pointer (some ⟨w.heap.size, 0, none⟩), .pointer (some ⟨w.heap.size + 1, 0, none⟩), .slice none 0 0, .int .i64 0, .pointer (some ⟨w.heap.size + 1 + 1, 0, none⟩), .int .i64 (x.1 : Int), .string x.2, undef, undef, undef, .slice A0 l0.length c0, .int .i64 a1, .bool true, .func (.func 35) #[] #[.pointer (some ⟨w.heap.size + 1 + 1 + 1, 0, none⟩)], .int .i64 (x.1 : Int), .string x.2, undef, undef, undef, undef, undef, undef, undef, undef, undef, undef, undef, undef, undef, undef, undef, undef, undef, undef, undef, undef, undef, undef, undef, undef, undef, undef, undef, undef, undef, undef, undef, undef, undef, undef, undef, undef, undef, undef, undef, undef, undef, undef, undef, undef, undef], defers := [] }) ?assignN ?bodyN ?doneN ?stopN
      case assignN =>
        intro l x W K hK
        gi_wp2
        exact hK
      case bodyN =>
        rintro l pre x W ⟨⟨⟨hbn, hbv⟩, g, hg, hrow, _⟩, hB⟩ hlt
        obtain ⟨i, s⟩ := x
        have hGl := goneOf_le a1 a2 pre
        have hPL := HL.out
        obtain ⟨G, hG⟩ : ∃ G, goneOf a1 a2 pre = G := ⟨_, rfl⟩
        have hsn : goneOf a1 a2 (pre ++ [(i, s)]) = step a1 a2 G (i, s) := by rw [goneOf_snoc, hG]
        rw [hG] at hrow hGl
        have HSN := Aside0.mk hsn
        have HG := Aside0.mk hG
        clear hsn hG
        obtain ⟨Ag, cg, rfl⟩ := Kd.R_slice (Kd.R_of_own (h1 := fun _ => rfl) (ok := fun _ => True) hrow (fun _ _ => trivial))
        have hcn := hbn.cell
        have hcv : W.cell? ⟨w.heap.size + 1, 0, none⟩ = some (.string a2) := hbv.cell
        have hcg : W.cell? ⟨w.heap.size + 1 + 1, 0, none⟩ = some (.slice Ag G.length cg) := hg.cell
        have hgl : G.length < 8796093022208 := by omega
        have hw : wrap64 (-(G.length : Int)) = -(G.length : Int) := by unfold wrap64; omega
        have hnp : ¬ (0 < a1) := by omega
        by_cases hf : full a1 G = true
        · have HF := Aside0.mk hf
          have hfe : (-(G.length : Int)) = a1 := by have := HF.out; simp only [full, Bool.or_eq_true, Bool.and_eq_true, decide_eq_true_eq] at this; omega
          have hfb : (-(G.length : Int) == a1) = true := beq_iff_eq.mpr hfe
          have HMB := Aside0.mk (show MidB w a1 a2 (pre ++ [(i, s)]) W from ⟨⟨⟨hbn, hbv⟩, _, hg, by rw [HSN.out, step_full HF.out]; exact hrow, trivial⟩, hB⟩)
          have HFS := Aside0.mk (show full a1 (goneOf a1 a2 (pre ++ [(i, s)])) = true by rw [HSN.out, step_full HF.out]; exact HF.out)
          clear hf hrow hB hg
          gi_wp2
          all_goals first | exact ⟨KeepsFrom.refl _ _, rfl, HFS.out, HMB.out⟩ | (rename_i hu hb; cases hu; done) | (rename_i hu hb; exact absurd hu (by simp [undef])) | (exfalso; omega)
        · have HF := Aside0.mk hf
          have hfe : ¬ (-(G.length : Int)) = a1 := by have := HF.out; simp only [full, Bool.or_eq_true, Bool.and_eq_true, decide_eq_true_eq] at this; omega
          clear hf
          skip
          all_goals
            by_cases hv : s.toList = a2.toList
            · have hvb : (s.toList == a2.toList) = true := beq_iff_eq.mpr hv
              have HV := Aside0.mk hv
              clear hv
              have hBs := Aside0.mk hB
              have hrowA := Aside0.mk hrow
              have hgA := Aside0.mk hg
              gi_wp2_with (gi_at_builtin; refine wpListIn_append_own _ rfl _ _ 46 rfl (w.heap.size + 1) 3 i0 (.int .i64 0) 1 8 Try.underlying46 hi hz0 hz1 hz2 rfl (by decide) _ _ _ rfl (hrowA.out.alloc _) ⟨W.heap.size, 0, none⟩ 1 1 [.int .i64 (i : Int)] rfl rfl (cell_one_new _ _ _) (by simp [Value.oneCell']) (by simp only [maxLen]; omega) (by omega) (by have := hgA.out.lt; simp; omega) ?_; intro v' w1 hown' hgrow _; obtain ⟨g', cap', rfl⟩ := ownsRow_succ hown'; obtain ⟨hv1, hv2, hr2, hk2, hb2⟩ := hgA.out.appended (by decide) hrowA.out (by have := hgA.out.lt; omega) (by omega) hown' hgrow; have hc1 : w1.cell? ⟨w.heap.size + 1 + 1, 0, none⟩ = some _ := hv1.cell; have hf1 : w1.frozen? ⟨w.heap.size + 1 + 1, 0, none⟩ = false := hv1.frozen)
              all_goals
                refine ⟨hk2.from _, ⟨hb2.mono (by omega), fun u hu => ((hu.alloc _).kept hgrow (hu.not_row (by decide) hrowA.out)).other (by omega) _⟩, ⟨⟨((hbn.alloc _).kept hgrow (fun e => by have := own_base hrowA.out _ e.symm; omega)).other (by omega) _, ((hbv.alloc _).kept hgrow (hbv.not_row (by decide) hrowA.out)).other (by omega) _⟩, _, hv2, ?_, trivial⟩, hBs.out.trans (hb2.mono (by omega))⟩
                rw [HSN.out]
                unfold step
                rw [if_neg HF.out, if_pos HV.out]
                simpa [encs] using hr2
            · have hvb : (s.toList == a2.toList) = false := beq_eq_false_iff_ne.mpr hv
              have HMB := Aside0.mk (show MidB w a1 a2 (pre ++ [(i, s)]) W from ⟨⟨⟨hbn, hbv⟩, _, hg, by rw [HSN.out]; unfold step; rw [if_neg HF.out, if_neg hv]; exact hrow, trivial⟩, hB⟩)
              clear hrow hB hg hv
              gi_wp2
              all_goals exact ⟨KeepsFrom.refl _ _, Kp.refl _ _ _, HMB.out⟩
      case doneN =>
        rintro D ys W hD rfl hI hKd
        exact ⟨rfl, D, rfl, by omega, hKd, by rw [hsq]; exact hI⟩
      case stopN =>
        rintro D c pre W hD ⟨k, hk, rfl⟩ ⟨rfl, hfull, hI⟩ hKd
        gi_wp2
        obtain ⟨xs, hx⟩ := upto_split l0 (fun j => l0.length - 1 - j) l0.length k hk
        have hE : goneOf a1 a2 (seqOf l0 a1) = goneOf a1 a2 (upto l0 (fun j => l0.length - 1 - j) k) := by rw [hsq, hx]; exact goneOf_full hfull xs
        refine ⟨trivial, D, rfl, by omega, hKd, ?_⟩
        unfold MidB Mid at hI ⊢
        rw [hE]
        exact hI
    · rintro e a' W ⟨rfl, D, rfl, hD, hKd, hI⟩
      refine hK _ _ ?_
      obtain ⟨⟨⟨hbn, hbv⟩, g, hg, hrow, _⟩, hB⟩ := hI
      obtain ⟨G, hG⟩ : ∃ G, gone l0 a1 a2 = G := ⟨_, rfl⟩
      have hGl : G.length < 8796093022208 := by
        have h1 := goneOf_le a1 a2 (seqOf l0 a1)
        have h2 : (seqOf l0 a1).length = l0.length := by rw [hsq, upto_length]
        have h3 : (gone l0 a1 a2).length ≤ (seqOf l0 a1).length := h1
        rw [hG] at h3
        have := HL.out
        omega
      have hrow' : W.ownsRow (w.heap.size + 1) 3 1 g G.length (encs (Value.int .i64) G) := by rw [← hG]; exact hrow
      obtain ⟨Ag, cg, rfl⟩ := Kd.R_slice (Kd.R_of_own (h1 := fun _ => rfl) (ok := fun _ => True) hrow' (fun _ _ => trivial))
      have HG := Aside0.mk hG
      have HGL := Aside0.mk hGl
      have HROW := Aside0.mk hrow'
      have HGB := Aside0.mk hg
      have HB := Aside0.mk hB
      have HKD := Aside0.mk hKd
      have HD := Aside0.mk hD
      clear hbn hbv hrow hrow' hg hB hKd hD hG hGl hK hB0 hsz c0' c1' c2' c3' hsq
      go_wp2
      go_loopg [11, 48] (l0.length + 1) (fun kq v11 v48 wr => ∃ (k : Nat) (v : Value), v11 = v ∧ v48 = .int .i64 (k : Int) ∧ k + kq = l0.length + 1 ∧ 0 < kq ∧ Kd.R Kd.string 9 wr w.heap.size (fun _ => True) v (outFrom G 0 (l0.take k)) ∧ Boxed wr (w.heap.size + 2) 46 (.slice Ag G.length cg) ∧ wr.ownsRow (w.heap.size + 1) 3 1 (.slice Ag G.length cg) G.length (encs (Value.int .i64) G) ∧ wr.heap[D]? = some (.deferred (some [])) ∧ Below w.heap.size w wr)
      case atStart => exact ⟨0, _, rfl, rfl, by omega, by omega, Kd.R_nil _ _ _ _ _, HGB.out, HROW.out, HKD.out, HB.out⟩
      case round =>
        clear HROW HGB HB HKD
        obtain ⟨k, v, rfl, rfl, hk1, hk2, hR, hgb, hrw, hkd, hBw⟩ := hrel
        obtain ⟨Av, cv, rfl⟩ := Kd.R_slice hR
        have HK1 := Aside0.mk hk1
        have HK2 := Aside0.mk hk2
        have HR := Aside0.mk hR
        have HGB := Aside0.mk hgb
        have HRW := Aside0.mk hrw
        have HKD := Aside0.mk hkd
        have HB := Aside0.mk hBw
        clear hk1 hk2 hR hgb hrw hkd hBw
        have hcg : wr.cell? ⟨w.heap.size + 1 + 1, 0, none⟩ = some (.slice Ag G.length cg) := HGB.out.cell
        by_cases hlt : k < l0.length
        · obtain ⟨ad, s, rfl, hcell, hs⟩ := text_at (Kd.C_below HR0.out HB.out) k hlt
          have HS := Aside0.mk hs
          have hN := HL.out
          have HLT := Aside0.mk hlt
          have HOL := Aside0.mk (outFrom_le G 0 (l0.take k))
          obtain ⟨ys, hys⟩ : ∃ ys, outFrom G 0 (l0.take k) = ys := ⟨_, rfl⟩
          have HYS := Aside0.mk hys
          rw [hys] at HR HOL ⊢
          have ck2 : decide ((k : Int) < (l0.length : Int)) = true := decide_eq_true (by omega)
          have hk0 : 0 ≤ (k : Int) := by omega
          have hk3 : (k : Int) < (l0.length : Int) := by omega
          clear hs hys
          have hGC := Aside0.mk (Kd.R_reads' (Kd.R_of_own (h1 := fun _ => rfl) (ok := fun _ => True) HRW.out (fun _ _ => trivial))).2
          by_cases hm : (k : Int) ∈ G
          · have HM := Aside0.mk hm
            clear hm
            go_wp2_with (go_at_call 23; refine (HCON.out Ag cg G (k : Int) _ ?_ ?_ HGL.out).mono ?_; (case refine_1 => exact hGC.out.2); (case refine_2 => exact hGC.out.1); intro e w2 h; obtain ⟨rfl, ⟨m2, rfl⟩⟩ : e = Ending.returned (.bool true) ∧ Drawn0 _ w2 := ⟨h.1.trans (by rw [decide_eq_true HM.out]), h.2⟩; clear h)
            go_roundg (gk - 1)
            case measure => have := HK1.out; have := HLT.out; omega
            case rel => exact ⟨k + 1, _, rfl, by first | rfl | go_num, by have := HK1.out; have := HLT.out; omega, by have := HK1.out; have := HLT.out; omega, by rw [take_at HLT.out HS.out, outFrom_append, List.length_take, Nat.min_eq_left (Nat.le_of_lt HLT.out), Nat.zero_add, if_pos HM.out, List.append_nil, HYS.out]; exact HR.out, HGB.out, HRW.out, HKD.out, by first | exact HB.out | exact pw_below_drewN HB.out _⟩
          · have HM := Aside0.mk hm
            clear hm
            go_wp2_with (first | (go_at_call 23; refine (HCON.out Ag cg G (k : Int) _ ?_ ?_ HGL.out).mono ?_; (case refine_1 => exact hGC.out.2); (case refine_2 => exact hGC.out.1); intro e w2 h; obtain ⟨rfl, ⟨m2, rfl⟩⟩ : e = Ending.returned (.bool false) ∧ Drawn0 _ w2 := ⟨h.1.trans (by rw [decide_eq_false HM.out]), h.2⟩; clear h) | ((with_reducible refine gate_builtin (b := .append) (xs := #[.tmp 57, .tmp 59]) rfl ?_); at_builtin; refine Kd.R_append Kd.string (w0 := w) w.heap.size rfl (.tmp 57) (.tmp 59) 25 9 (.string ⟨#[]⟩) 16 rfl Try.underlying25 Own.info9 rfl (by decide) (by omega) (.slice Av ys.length cv) ys s [.string s] (fun _ => True) (fun _ => False) rfl rfl ?aP (fun _ hk => hk.elim) ?aF ?aO ?aB ?aS ?aL ?_; (case aP => exact rfl); (case aB => exact (by repeat (first | exact HB.out | apply below_alloc | apply pw_below_drewN | apply below_drew1))); (case aF => exact (fun _ _ => trivial)); (case aO => exact (by (with_reducible repeat (first | apply Kd.R_alloc | apply Kd.R_drewN | apply Kd.R_drew)); exact HR.out)); (case aS => exact (below_size (by repeat (first | exact HB.out | apply below_alloc | apply pw_below_drewN | apply below_drew1)))); (case aL => have h5 := HOL.out; rw [List.length_take] at h5; have h6 := HL.out; have h7 := HLT.out; omega); intro v2 w3 ho hb hg hat; have HO := Aside0.mk ho; have HB2 := Aside0.mk hb; have HGR := Aside0.mk hg; clear ho hb hg hat))
            go_roundg (gk - 1)
            case measure => have := HK1.out; have := HLT.out; omega
            case rel =>
              have ho9 := Kd.own_of_R HR.out
              have hDlt : D < wr.heap.size := (Array.getElem?_eq_some_iff.1 HKD.out).1
              exact ⟨k + 1, _, rfl, by first | rfl | go_num, by have := HK1.out; have := HLT.out; omega, by have := HK1.out; have := HLT.out; omega, by rw [take_at HLT.out HS.out, outFrom_append, List.length_take, Nat.min_eq_left (Nat.le_of_lt HLT.out), Nat.zero_add, if_neg HM.out, HYS.out]; exact HO.out, Boxed.kept (show Boxed (wr.drewN m2) (w.heap.size + 2) 46 (.slice Ag G.length cg) from HGB.out) HGR.out (HGB.out.not_row (by decide) ho9), own_other (pw_own_drewN HRW.out m2) HGR.out (own_type_ne HRW.out ho9 (by decide)),
                (HGR.out.block D hDlt (fun e => by obtain ⟨cc, hcc⟩ := own_typed ho9 _ e.symm; rw [HKD.out] at hcc; cases hcc)).trans HKD.out, HB2.out⟩
        · have hkn : k = l0.length := by have := HK1.out; have := HK2.out; omega
          subst hkn
          have ck2 : decide ((l0.length : Int) < (l0.length : Int)) = false := decide_eq_false (by omega)
          clear hlt
          have HRf : Aside0 (Kd.R Kd.string 9 wr w.heap.size (fun _ => True) (.slice Av (outFrom G 0 (l0.take l0.length)).length cv) (outFrom G 0 l0)) := ⟨by have := HR.out; rw [List.take_length] at this ⊢; exact this⟩
          clear HR
          obtain ⟨N, hN⟩ : ∃ N, (outFrom G 0 (l0.take l0.length)).length = N := ⟨_, rfl⟩
          rw [hN] at HRf ⊢
          clear hN
          go_wp2
          go_region
          all_goals go_wp2
          all_goals
            refine ⟨by simp, .inl ⟨_, _, rfl, run_takeDeferred (w := wr.drew) HKD.out, ?_⟩⟩
            refine ⟨_, results_tmp2 rfl _ _ _, _, (by rw [HG.out]; rfl), ?_, ?_⟩
            · unfold out
              rw [HG.out]
              exact Kd.R_of_own (ownsRow_putObj (own_drew (by have h9 := Kd.own_of_R HRf.out; exact h9)) _ (show wr.drew.heap[D]? = _ from HKD.out) rfl) (fun _ _ => trivial)
            · exact (below_drew1 HB.out).trans (belowK_b (w := w) (Nat.le_refl _) wr.drew D _ _ HD.out (show wr.drew.heap[D]? = _ from HKD.out) rfl rfl)
  · have cn : decide (a1 < 0) = false := decide_eq_false hneg
    have hsq : seqOf l0 a1 = upto l0 (fun j => j) l0.length := if_neg hneg
    go_upto_block 0 with (go_at_call 22; refine (walk_false _ _ _ _).mono ?_; rintro e w1 ⟨rfl, rfl⟩)
    rename_i Q' K hK
    have b0 := Boxed.new w 3 (.int .i64 a1)
    have b1 := Boxed.new (w.alloc (.cells #[.int .i64 a1] 3)) 9 (.string a2)
    have b2 := Boxed.new ((w.alloc (.cells #[.int .i64 a1] 3)).alloc (.cells #[.string a2] 9)) 46 (.slice none 0 0)
    have b3 := Boxed.new (((w.alloc (.cells #[.int .i64 a1] 3)).alloc (.cells #[.string a2] 9)).alloc (.cells #[.slice none 0 0] 46)) 25 (.slice A0 l0.length c0)
    simp only [World.size_alloc] at b1 b2 b3
    have hB0 : Below w.heap.size w ((((w.alloc (.cells #[.int .i64 a1] 3)).alloc (.cells #[.string a2] 9)).alloc (.cells #[.slice none 0 0] 46)).alloc (.cells #[.slice A0 l0.length c0] 25)) := ((((Below.refl _ w).alloc (Nat.le_refl _) _).alloc (by simp) _).alloc (by simp only [World.size_alloc]; omega) _).alloc (by simp only [World.size_alloc]; omega) _
    obtain ⟨W0, hW0⟩ : ∃ W0, ((((w.alloc (.cells #[.int .i64 a1] 3)).alloc (.cells #[.string a2] 9)).alloc (.cells #[.slice none 0 0] 46)).alloc (.cells #[.slice A0 l0.length c0] 25)) = W0 := ⟨_, rfl⟩
    have hsz : W0.heap.size = w.heap.size + 4 := by rw [← hW0]; simp only [World.size_alloc]
    have c0' : Boxed W0 w.heap.size 3 (.int .i64 a1) := hW0 ▸ ((b0.alloc _).alloc _).alloc _
    have c1' : Boxed W0 (w.heap.size + 1) 9 (.string a2) := hW0 ▸ (b1.alloc _).alloc _
    have c2' : Boxed W0 (w.heap.size + 2) 46 (.slice none 0 0) := hW0 ▸ b2.alloc _
    have c3' : Boxed W0 (w.heap.size + 1 + 1 + 1) 25 (.slice A0 l0.length c0) := hW0 ▸ b3
    rw [hW0] at hB0 ⊢
    clear b0 b1 b2 b3 hW0
    refine wp_mono (Q := fun e a' W => e = .normal ∧ ∃ D, a' = { tmps := #[.slice A0 l0.length c0, .int .i64 a1, .string a2, undef, .pointer (some ⟨w.heap.size, 0, none⟩), .pointer (some ⟨w.heap.size + 1, 0, none⟩), .slice none 0 0, .int .i64 0, .pointer (some ⟨w.heap.size + 1 + 1, 0, none⟩), undef, undef, undef, undef, undef, .slice A0 l0.length c0, .int .i64 a1, .bool false, .func (.func 36) #[] #[.pointer (some ⟨w.heap.size + 1 + 1 + 1, 0, none⟩)], undef, undef, undef, undef, undef, undef, undef, undef, undef, undef, undef, undef, undef, undef, undef, undef, undef, undef, undef, undef, undef, undef, undef, undef, undef, undef, undef, undef, undef, undef, undef, undef, undef, undef, undef, undef, undef, undef, undef, undef, undef, undef, undef, undef, undef, undef, undef], defers := [{ target := .collected D, args := #[] }] } ∧ w.heap.size ≤ D ∧ W.heap[D]? = some (.deferred (some [])) ∧ MidB w a1 a2 (seqOf l0 a1) W) ?_ ?_
    · refine wp_block ?_
      refine (wpIn_wide (n := 9)).1 ?_
      refine wpIn_rangeFunc_ownG (F := Fence.wide) (n := 9) rfl (by omega) (gf := 36) (lb := #[.pointer (some ⟨w.heap.size + 1 + 1 + 1, 0, none⟩)]) rfl trivial (enters_of Try.func36 (by kernel_rfl) rfl)
        (all_stops Fence.wide 8 trivial rfl (by omega) (w.heap.size + 1 + 1 + 1) c0 A0 l0 w W0 HR0.out HL.out c3' hB0) Kp.trans (Kp_b (by rw [hsz]; omega)) (Below.refl _ _) (fun _ => rfl)
        (fun pre W => MidB w a1 a2 pre W) (fun c pre W => c = .exit 0 ∧ full a1 (goneOf a1 a2 pre) = true ∧ MidB w a1 a2 pre W)
        (OwnFrom.and (Own.from (Mid.own w a1 a2) _) (ownFrom_below (Nat.le_refl _) (by rw [hsz]; omega)))
        (fun c s A B row hs hg hr => ⟨hs.1, hs.2.1, (OwnFrom.and (Own.from (Mid.own w a1 a2) _) (ownFrom_below (Nat.le_refl _) (by rw [hsz]; omega))) s A B row hs.2.2 hg hr⟩)
        ⟨⟨⟨c0', c1'⟩, _, c2', World.ownsRow_nil _ _ _ _, trivial⟩, hB0⟩
        (fun x => { tmps := #[.slice A0 l0.length c0, .int .i64 a1, .string a2, undef, .pointer (some ⟨w.heap.size, 0, none⟩), .pointer (some ⟨w.heap.size + 1, 0, none⟩), .slice none 0 0, .int .i64 0, .pointer (some ⟨w.heap.size + 1 + 1, 0, none⟩), .int .i64 (x.1 : Int), .string x.2, undef, undef, undef, .slice A0 l0.length c0, .int .i64 a1, .bool false, .func (.func 36) #[] #[.pointer (some ⟨w.heap.size + 1 + 1 + 1, 0, none⟩)], .int .i64 (x.1 : Int), .string x.2, undef, undef, undef, undef, undef, undef, undef, undef, undef, undef, undef, undef, undef, undef, undef, undef, undef, undef, undef, undef, undef, undef, undef, undef, undef, undef, undef, undef, undef, undef, undef, undef, undef, undef, undef, undef, undef, undef, undef, undef, undef, undef, undef, undef, undef], defers := [] }) ?assignP ?bodyP ?doneP ?stopP
      case assignP =>
        intro l x W K hK
        gi_wp2
        exact hK
      case bodyP =>
        rintro l pre x W ⟨⟨⟨hbn, hbv⟩, g, hg, hrow, _⟩, hB⟩ hlt
        obtain ⟨i, s⟩ := x
        have hGl := goneOf_le a1 a2 pre
        have hPL := HL.out
        obtain ⟨G, hG⟩ : ∃ G, goneOf a1 a2 pre = G := ⟨_, rfl⟩
        have hsn : goneOf a1 a2 (pre ++ [(i, s)]) = step a1 a2 G (i, s) := by rw [goneOf_snoc, hG]
        rw [hG] at hrow hGl
        have HSN := Aside0.mk hsn
        have HG := Aside0.mk hG
        clear hsn hG
        obtain ⟨Ag, cg, rfl⟩ := Kd.R_slice (Kd.R_of_own (h1 := fun _ => rfl) (ok := fun _ => True) hrow (fun _ _ => trivial))
        have hcn := hbn.cell
        have hcv : W.cell? ⟨w.heap.size + 1, 0, none⟩ = some (.string a2) := hbv.cell
        have hcg : W.cell? ⟨w.heap.size + 1 + 1, 0, none⟩ = some (.slice Ag G.length cg) := hg.cell
        have hgl : G.length < 8796093022208 := by omega
        have hw : wrap64 (-(G.length : Int)) = -(G.length : Int) := by unfold wrap64; omega
        have hnp : ¬ (a1 < 0) := by omega
        by_cases hf : full a1 G = true
        · have HF := Aside0.mk hf
          obtain ⟨hfe, hp⟩ : (G.length : Int) = a1 ∧ 0 < a1 := by have := HF.out; simp only [full, Bool.or_eq_true, Bool.and_eq_true, decide_eq_true_eq] at this; omega
          have hfb : ((G.length : Int) == a1) = true := beq_iff_eq.mpr hfe
          have HMB := Aside0.mk (show MidB w a1 a2 (pre ++ [(i, s)]) W from ⟨⟨⟨hbn, hbv⟩, _, hg, by rw [HSN.out, step_full HF.out]; exact hrow, trivial⟩, hB⟩)
          have HFS := Aside0.mk (show full a1 (goneOf a1 a2 (pre ++ [(i, s)])) = true by rw [HSN.out, step_full HF.out]; exact HF.out)
          clear hf hrow hB hg
          gi_wp2
          all_goals first | exact ⟨KeepsFrom.refl _ _, rfl, HFS.out, HMB.out⟩ | (rename_i hu hb; cases hu; done) | (rename_i hu hb; exact absurd hu (by simp [undef])) | (exfalso; omega)
        · have HF := Aside0.mk hf
          have hfe : ¬ ((G.length : Int) = a1 ∧ 0 < a1) := by have := HF.out; simp only [full, Bool.or_eq_true, Bool.and_eq_true, decide_eq_true_eq] at this; omega
          clear hf
          rcases (show (0 < a1 ∧ ((G.length : Int) == a1) = false) ∨ a1 ≤ 0 from if hp : 0 < a1 then .inl ⟨hp, beq_eq_false_iff_ne.mpr (fun e => hfe ⟨e, hp⟩)⟩ else .inr (by omega)) with ⟨hp, hq⟩ | hp
          all_goals
            by_cases hv : s.toList = a2.toList
            · have hvb : (s.toList == a2.toList) = true := beq_iff_eq.mpr hv
              have HV := Aside0.mk hv
              clear hv
              have hBs := Aside0.mk hB
              have hrowA := Aside0.mk hrow
              have hgA := Aside0.mk hg
              gi_wp2_with (gi_at_builtin; refine wpListIn_append_own _ rfl _ _ 46 rfl (w.heap.size + 1) 3 i0 (.int .i64 0) 1 8 Try.underlying46 hi hz0 hz1 hz2 rfl (by decide) _ _ _ rfl (hrowA.out.alloc _) ⟨W.heap.size, 0, none⟩ 1 1 [.int .i64 (i : Int)] rfl rfl (cell_one_new _ _ _) (by simp [Value.oneCell']) (by simp only [maxLen]; omega) (by omega) (by have := hgA.out.lt; simp; omega) ?_; intro v' w1 hown' hgrow _; obtain ⟨g', cap', rfl⟩ := ownsRow_succ hown'; obtain ⟨hv1, hv2, hr2, hk2, hb2⟩ := hgA.out.appended (by decide) hrowA.out (by have := hgA.out.lt; omega) (by omega) hown' hgrow; have hc1 : w1.cell? ⟨w.heap.size + 1 + 1, 0, none⟩ = some _ := hv1.cell; have hf1 : w1.frozen? ⟨w.heap.size + 1 + 1, 0, none⟩ = false := hv1.frozen)
              all_goals
                refine ⟨hk2.from _, ⟨hb2.mono (by omega), fun u hu => ((hu.alloc _).kept hgrow (hu.not_row (by decide) hrowA.out)).other (by omega) _⟩, ⟨⟨((hbn.alloc _).kept hgrow (fun e => by have := own_base hrowA.out _ e.symm; omega)).other (by omega) _, ((hbv.alloc _).kept hgrow (hbv.not_row (by decide) hrowA.out)).other (by omega) _⟩, _, hv2, ?_, trivial⟩, hBs.out.trans (hb2.mono (by omega))⟩
                rw [HSN.out]
                unfold step
                rw [if_neg HF.out, if_pos HV.out]
                simpa [encs] using hr2
            · have hvb : (s.toList == a2.toList) = false := beq_eq_false_iff_ne.mpr hv
              have HMB := Aside0.mk (show MidB w a1 a2 (pre ++ [(i, s)]) W from ⟨⟨⟨hbn, hbv⟩, _, hg, by rw [HSN.out]; unfold step; rw [if_neg HF.out, if_neg hv]; exact hrow, trivial⟩, hB⟩)
              clear hrow hB hg hv
              gi_wp2
              all_goals exact ⟨KeepsFrom.refl _ _, Kp.refl _ _ _, HMB.out⟩
      case doneP =>
        rintro D ys W hD rfl hI hKd
        exact ⟨rfl, D, rfl, by omega, hKd, by rw [hsq]; exact hI⟩
      case stopP =>
        rintro D c pre W hD ⟨k, hk, rfl⟩ ⟨rfl, hfull, hI⟩ hKd
        gi_wp2
        obtain ⟨xs, hx⟩ := upto_split l0 (fun j => j) l0.length k hk
        have hE : goneOf a1 a2 (seqOf l0 a1) = goneOf a1 a2 (upto l0 (fun j => j) k) := by rw [hsq, hx]; exact goneOf_full hfull xs
        refine ⟨trivial, D, rfl, by omega, hKd, ?_⟩
        unfold MidB Mid at hI ⊢
        rw [hE]
        exact hI
    · rintro e a' W ⟨rfl, D, rfl, hD, hKd, hI⟩
      refine hK _ _ ?_
      obtain ⟨⟨⟨hbn, hbv⟩, g, hg, hrow, _⟩, hB⟩ := hI
      obtain ⟨G, hG⟩ : ∃ G, gone l0 a1 a2 = G := ⟨_, rfl⟩
      have hGl : G.length < 8796093022208 := by
        have h1 := goneOf_le a1 a2 (seqOf l0 a1)
        have h2 : (seqOf l0 a1).length = l0.length := by rw [hsq, upto_length]
        have h3 : (gone l0 a1 a2).length ≤ (seqOf l0 a1).length := h1
        rw [hG] at h3
        have := HL.out
        omega
      have hrow' : W.ownsRow (w.heap.size + 1) 3 1 g G.length (encs (Value.int .i64) G) := by rw [← hG]; exact hrow
      obtain ⟨Ag, cg, rfl⟩ := Kd.R_slice (Kd.R_of_own (h1 := fun _ => rfl) (ok := fun _ => True) hrow' (fun _ _ => trivial))
      have HG := Aside0.mk hG
      have HGL := Aside0.mk hGl
      have HROW := Aside0.mk hrow'
      have HGB := Aside0.mk hg
      have HB := Aside0.mk hB
      have HKD := Aside0.mk hKd
      have HD := Aside0.mk hD
      clear hbn hbv hrow hrow' hg hB hKd hD hG hGl hK hB0 hsz c0' c1' c2' c3' hsq
      go_wp2
      go_loopg [11, 48] (l0.length + 1) (fun kq v11 v48 wr => ∃ (k : Nat) (v : Value), v11 = v ∧ v48 = .int .i64 (k : Int) ∧ k + kq = l0.length + 1 ∧ 0 < kq ∧ Kd.R Kd.string 9 wr w.heap.size (fun _ => True) v (outFrom G 0 (l0.take k)) ∧ Boxed wr (w.heap.size + 2) 46 (.slice Ag G.length cg) ∧ wr.ownsRow (w.heap.size + 1) 3 1 (.slice Ag G.length cg) G.length (encs (Value.int .i64) G) ∧ wr.heap[D]? = some (.deferred (some [])) ∧ Below w.heap.size w wr)
      case atStart => exact ⟨0, _, rfl, rfl, by omega, by omega, Kd.R_nil _ _ _ _ _, HGB.out, HROW.out, HKD.out, HB.out⟩
      case round =>
        clear HROW HGB HB HKD
        obtain ⟨k, v, rfl, rfl, hk1, hk2, hR, hgb, hrw, hkd, hBw⟩ := hrel
        obtain ⟨Av, cv, rfl⟩ := Kd.R_slice hR
        have HK1 := Aside0.mk hk1
        have HK2 := Aside0.mk hk2
        have HR := Aside0.mk hR
        have HGB := Aside0.mk hgb
        have HRW := Aside0.mk hrw
        have HKD := Aside0.mk hkd
        have HB := Aside0.mk hBw
        clear hk1 hk2 hR hgb hrw hkd hBw
        have hcg : wr.cell? ⟨w.heap.size + 1 + 1, 0, none⟩ = some (.slice Ag G.length cg) := HGB.out.cell
        by_cases hlt : k < l0.length
        · obtain ⟨ad, s, rfl, hcell, hs⟩ := text_at (Kd.C_below HR0.out HB.out) k hlt
          have HS := Aside0.mk hs
          have hN := HL.out
          have HLT := Aside0.mk hlt
          have HOL := Aside0.mk (outFrom_le G 0 (l0.take k))
          obtain ⟨ys, hys⟩ : ∃ ys, outFrom G 0 (l0.take k) = ys := ⟨_, rfl⟩
          have HYS := Aside0.mk hys
          rw [hys] at HR HOL ⊢
          have ck2 : decide ((k : Int) < (l0.length : Int)) = true := decide_eq_true (by omega)
          have hk0 : 0 ≤ (k : Int) := by omega
          have hk3 : (k : Int) < (l0.length : Int) := by omega
          clear hs hys
          have hGC := Aside0.mk (Kd.R_reads' (Kd.R_of_own (h1 := fun _ => rfl) (ok := fun _ => True) HRW.out (fun _ _ => trivial))).2
          by_cases hm : (k : Int) ∈ G
          · have HM := Aside0.mk hm
            clear hm
            go_wp2_with (go_at_call 23; refine (HCON.out Ag cg G (k : Int) _ ?_ ?_ HGL.out).mono ?_; (case refine_1 => exact hGC.out.2); (case refine_2 => exact hGC.out.1); intro e w2 h; obtain ⟨rfl, ⟨m2, rfl⟩⟩ : e = Ending.returned (.bool true) ∧ Drawn0 _ w2 := ⟨h.1.trans (by rw [decide_eq_true HM.out]), h.2⟩; clear h)
            go_roundg (gk - 1)
            case measure => have := HK1.out; have := HLT.out; omega
            case rel => exact ⟨k + 1, _, rfl, by first | rfl | go_num, by have := HK1.out; have := HLT.out; omega, by have := HK1.out; have := HLT.out; omega, by rw [take_at HLT.out HS.out, outFrom_append, List.length_take, Nat.min_eq_left (Nat.le_of_lt HLT.out), Nat.zero_add, if_pos HM.out, List.append_nil, HYS.out]; exact HR.out, HGB.out, HRW.out, HKD.out, by first | exact HB.out | exact pw_below_drewN HB.out _⟩
          · have HM := Aside0.mk hm
            clear hm
            go_wp2_with (first | (go_at_call 23; refine (HCON.out Ag cg G (k : Int) _ ?_ ?_ HGL.out).mono ?_; (case refine_1 => exact hGC.out.2); (case refine_2 => exact hGC.out.1); intro e w2 h; obtain ⟨rfl, ⟨m2, rfl⟩⟩ : e = Ending.returned (.bool false) ∧ Drawn0 _ w2 := ⟨h.1.trans (by rw [decide_eq_false HM.out]), h.2⟩; clear h) | ((with_reducible refine gate_builtin (b := .append) (xs := #[.tmp 57, .tmp 59]) rfl ?_); at_builtin; refine Kd.R_append Kd.string (w0 := w) w.heap.size rfl (.tmp 57) (.tmp 59) 25 9 (.string ⟨#[]⟩) 16 rfl Try.underlying25 Own.info9 rfl (by decide) (by omega) (.slice Av ys.length cv) ys s [.string s] (fun _ => True) (fun _ => False) rfl rfl ?aP (fun _ hk => hk.elim) ?aF ?aO ?aB ?aS ?aL ?_; (case aP => exact rfl); (case aB => exact (by repeat (first | exact HB.out | apply below_alloc | apply pw_below_drewN | apply below_drew1))); (case aF => exact (fun _ _ => trivial)); (case aO => exact (by (with_reducible repeat (first | apply Kd.R_alloc | apply Kd.R_drewN | apply Kd.R_drew)); exact HR.out)); (case aS => exact (below_size (by repeat (first | exact HB.out | apply below_alloc | apply pw_below_drewN | apply below_drew1)))); (case aL => have h5 := HOL.out; rw [List.length_take] at h5; have h6 := HL.out; have h7 := HLT.out; omega); intro v2 w3 ho hb hg hat; have HO := Aside0.mk ho; have HB2 := Aside0.mk hb; have HGR := Aside0.mk hg; clear ho hb hg hat))
            go_roundg (gk - 1)
            case measure => have := HK1.out; have := HLT.out; omega
            case rel =>
              have ho9 := Kd.own_of_R HR.out
              have hDlt : D < wr.heap.size := (Array.getElem?_eq_some_iff.1 HKD.out).1
              exact ⟨k + 1, _, rfl, by first | rfl | go_num, by have := HK1.out; have := HLT.out; omega, by have := HK1.out; have := HLT.out; omega, by rw [take_at HLT.out HS.out, outFrom_append, List.length_take, Nat.min_eq_left (Nat.le_of_lt HLT.out), Nat.zero_add, if_neg HM.out, HYS.out]; exact HO.out, Boxed.kept (show Boxed (wr.drewN m2) (w.heap.size + 2) 46 (.slice Ag G.length cg) from HGB.out) HGR.out (HGB.out.not_row (by decide) ho9), own_other (pw_own_drewN HRW.out m2) HGR.out (own_type_ne HRW.out ho9 (by decide)),
                (HGR.out.block D hDlt (fun e => by obtain ⟨cc, hcc⟩ := own_typed ho9 _ e.symm; rw [HKD.out] at hcc; cases hcc)).trans HKD.out, HB2.out⟩
        · have hkn : k = l0.length := by have := HK1.out; have := HK2.out; omega
          subst hkn
          have ck2 : decide ((l0.length : Int) < (l0.length : Int)) = false := decide_eq_false (by omega)
          clear hlt
          have HRf : Aside0 (Kd.R Kd.string 9 wr w.heap.size (fun _ => True) (.slice Av (outFrom G 0 (l0.take l0.length)).length cv) (outFrom G 0 l0)) := ⟨by have := HR.out; rw [List.take_length] at this ⊢; exact this⟩
          clear HR
          obtain ⟨N, hN⟩ : ∃ N, (outFrom G 0 (l0.take l0.length)).length = N := ⟨_, rfl⟩
          rw [hN] at HRf ⊢
          clear hN
          go_wp2
          go_region
          all_goals go_wp2
          all_goals
            refine ⟨by simp, .inl ⟨_, _, rfl, run_takeDeferred (w := wr.drew) HKD.out, ?_⟩⟩
            refine ⟨_, results_tmp2 rfl _ _ _, _, (by rw [HG.out]; rfl), ?_, ?_⟩
            · unfold out
              rw [HG.out]
              exact Kd.R_of_own (ownsRow_putObj (own_drew (by have h9 := Kd.own_of_R HRf.out; exact h9)) _ (show wr.drew.heap[D]? = _ from HKD.out) rfl) (fun _ _ => trivial)
            · exact (below_drew1 HB.out).trans (belowK_b (w := w) (Nat.le_refl _) wr.drew D _ _ HD.out (show wr.drew.heap[D]? = _ from HKD.out) rfl rfl)
end Go.Proofs.Ytheooomdhbleeaa.Rem

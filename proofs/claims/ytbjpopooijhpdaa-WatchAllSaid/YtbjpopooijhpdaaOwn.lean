/-
  Contracts, proved by hand, of the functions of the layer watch that copy a watch: slices.Clone (twice), own. Conditions: lengths below what an append takes.
-/
import Derived.Test.YtbjpopooijhpdaaProg
import Derived.Test.YtbjpopooijhpdaaWMore
import Derived.Test.YtbjpopooijhpdaaWApart
import Derived.Test.YtbjpopooijhpdaaWN
import Derived.Test.YtbjpopooijhpdaaWGuard
import Derived.Test.YtbjpopooijhpdaaWZeros
import Derived.WalkSpells
import Derived.Outline
import Derived.Deep.RegionHeld3
import Derived.Deep.DrawnRows
import Derived.Deep.DeepCutAuto
import Derived.Deep.CutBlock
import Derived.KernelRfl
namespace Go.Proofs.Ytbjpopooijhpdaa.Own
open Go.RowKit Go.Proofs.YtbjpopooijhpdaaW.PrintWords Go.Proofs.YtbjpopooijhpdaaW.PrintLast Go.Proofs.YtbjpopooijhpdaaW.PrintMore
set_option linter.unusedVariables false
set_option linter.unusedSimpArgs false

theorem info3 : (Try.prog.info? 3).map (fun i => (i.zero, i.size, i.bytes)) = some (some (.int .i64 0), 1, 8) := by kernel_rfl
theorem info24 : (Try.prog.info? 24).map (fun i => (i.zero, i.size, i.bytes)) = some (some (.slice none 0 0), 1, 24) := by kernel_rfl

theorem C_none {α : Type} {d : Kd α} {w : World} {n : Nat} {xs : List α} (h : d.C w none n xs) : xs = [] := by
  obtain ⟨h1, _, h3⟩ := h
  rcases Nat.eq_zero_or_pos n with h0 | h0
  · subst h0; exact List.eq_nil_of_length_eq_zero h1
  · obtain ⟨_, he, _⟩ := h3 h0
    cases he

set_option maxHeartbeats 1000000 in
set_option maxRecDepth 100000 in
theorem clone_int (A0 : Option Addr) (c0 : Nat) (l0 : List Int) (w : World) (hr0 : Kd.C (Kd.int .i64) w A0 l0.length l0) (hl : l0.length < 17592186044416) :
    Calls Try.prog 22 #[.slice A0 l0.length c0] w fun e w' => ∃ v0_ : Value, e = .returned (v0_) ∧ Kd.R (Kd.int .i64) 3 w' w.heap.size (fun _ => True) v0_ l0 ∧ Below w.heap.size w w' := by
  have hnil := fun (w : World) (n c : Nat) => Lib.run_eql_slice_nil (P := Try.prog) w 24 3 A0 n c 0 0 Try.underlying24
  cases A0 with
  | none =>
    obtain rfl := C_none hr0
    clear hr0
    go_enter Try.func22, Try.ntmps22
    go_wp2
    go_ret
    exact ⟨_, rfl, Kd.R_nil _ _ _ _ _, Below.refl _ _⟩
  | some a0 =>
    have HR0 := Aside0.mk hr0
    have HL := Aside0.mk hl
    clear hr0 hl
    go_enter Try.func22, Try.ntmps22
    go_wp2_with (first | ((with_reducible refine gate_dst (N := 5) rfl ?_); refine Kd.R_lit (Kd.int .i64) _ 3 ?hg (N := 5) ?hd (xs := ([] : List Int)) (inner := []) (ok := fun _ => True) (okp := fun _ => True) ?hr ?hp (fun _ hk => hk) trivial (Below.refl _ _) (Nat.le_refl _) (by simp) ?_; (case hd => rfl); (case hg => rfl); (case hr => first | (go_simp; done) | (go_simp; rfl)); (case hp => exact (Reps.none _ _)); intro v1 w1 ho hb hg_ hnew_; clear hg_ hnew_; have HO := Aside0.mk ho; have HB := Aside0.mk hb; clear ho hb) | ((with_reducible refine gate_builtin (b := .append) (xs := #[.tmp 5, .tmp 6]) rfl ?_); at_builtin; refine Kd.R_append_rows (Kd.int .i64) (w0 := w) w.heap.size rfl (.tmp 5) (.tmp 6) 24 3 (.int .i64 0) 8 rfl Try.underlying24 info3 rfl (by decide) (by omega) v1 [] l0 _ _ _ (fun _ => True) (fun _ => False) rfl rfl ?aO ?aR (fun _ _ h => h) (fun _ h => h.elim) ?aF ?aB ?aS ?aL ?_; (case aR => exact Kd.C_below HR0.out HB.out); (case aB => exact HB.out); (case aF => exact (fun _ _ => trivial)); (case aO => exact HO.out); (case aS => exact HB.out.size); (case aL => have := HL.out; simp only [List.length_nil]; omega); intro v2 w2 ho hb hg hat; rw [List.nil_append] at ho; clear HO; have HO := Aside0.mk ho; have HB2 := Aside0.mk hb; clear ho hb hg hat))
    go_ret
    exact ⟨_, rfl, HO.out, HB2.out⟩

abbrev One := {v : Value // v.oneCell' = true}
def cellK : Kd One := Kd.scalar Subtype.val (fun x => x.2)

set_option maxHeartbeats 1000000 in
set_option maxRecDepth 100000 in
theorem clone_cells (A0 : Option Addr) (c0 n : Nat) (l0 : List One) (w : World) (hn : l0.length = n) (hr0 : Kd.C cellK w A0 n l0) (hl : n < 5864062014805) :
    Calls Try.prog 26 #[.slice A0 n c0] w fun e w' => ∃ v0_ : Value, e = .returned (v0_) ∧ Kd.R cellK 24 w' w.heap.size (fun _ => True) v0_ l0 ∧ Below w.heap.size w w' := by
  subst hn
  have hnil := fun (w : World) (n c : Nat) => Lib.run_eql_slice_nil (P := Try.prog) w 25 24 A0 n c 0 0 Try.underlying25
  cases A0 with
  | none =>
    obtain rfl := C_none hr0
    clear hr0
    go_enter Try.func26, Try.ntmps26
    go_wp2
    go_ret
    exact ⟨_, rfl, Kd.R_nil _ _ _ _ _, Below.refl _ _⟩
  | some a0 =>
    have HR0 := Aside0.mk hr0
    have HL := Aside0.mk hl
    clear hr0 hl
    go_enter Try.func26, Try.ntmps26
    go_wp2_with (first | ((with_reducible refine gate_dst (N := 5) rfl ?_); refine Kd.R_lit cellK _ 24 ?hg (N := 5) ?hd (xs := ([] : List One)) (inner := []) (ok := fun _ => True) (okp := fun _ => True) ?hr ?hp (fun _ hk => hk) trivial (Below.refl _ _) (Nat.le_refl _) (by simp) ?_; (case hd => rfl); (case hg => rfl); (case hr => first | (go_simp; done) | (go_simp; rfl)); (case hp => exact (Reps.none _ _)); intro v1 w1 ho hb hg_ hnew_; clear hg_ hnew_; have HO := Aside0.mk ho; have HB := Aside0.mk hb; clear ho hb) | ((with_reducible refine gate_builtin (b := .append) (xs := #[.tmp 5, .tmp 6]) rfl ?_); at_builtin; refine Kd.R_append_rows cellK (w0 := w) w.heap.size rfl (.tmp 5) (.tmp 6) 25 24 (.slice none 0 0) 24 rfl Try.underlying25 info24 rfl (by decide) (by omega) v1 [] l0 _ _ _ (fun _ => True) (fun _ => False) rfl rfl ?aO ?aR (fun _ _ h => h) (fun _ h => h.elim) ?aF ?aB ?aS ?aL ?_; (case aR => exact Kd.C_below HR0.out HB.out); (case aB => exact HB.out); (case aF => exact (fun _ _ => trivial)); (case aO => exact HO.out); (case aS => exact HB.out.size); (case aL => have := HL.out; simp only [List.length_nil]; omega); intro v2 w2 ho hb hg hat; rw [List.nil_append] at ho; clear HO; have HO := Aside0.mk ho; have HB2 := Aside0.mk hb; clear ho hb hg hat))
    go_ret
    exact ⟨_, rfl, HO.out, HB2.out⟩

/-! ### what holds while own copies the inner rows -/
abbrev ik : Kd Int := Kd.int .i64
abbrev sk : Kd (List Int) := Kd.slice 3 (Kd.int .i64)

/-- A row of rows that is read: its cells. -/
theorem C_cells {w : World} {A : Option Addr} {n : Nat} {xs : List (List Int)} (h : sk.C w A n xs) :
    ∃ us : List One, us.length = xs.length ∧ cellK.C w A n us ∧ ∀ (j : Nat) (x : List Int) (u : One), xs[j]? = some x → us[j]? = some u → ∃ A c, u.1 = .slice A x.length c ∧ x.length ≤ c ∧ ik.C w A x.length x := by
  obtain ⟨h1, h2, h3⟩ := h
  rcases Nat.eq_zero_or_pos n with h0 | h0
  · subst h0
    obtain rfl := List.eq_nil_of_length_eq_zero h1
    exact ⟨[], rfl, ⟨rfl, by simp, fun h => absurd h (Nat.lt_irrefl 0)⟩, fun j x u hx => by simp at hx⟩
  · obtain ⟨ad, rfl, hc⟩ := h3 h0
    have hex : ∀ j : Fin xs.length, ∃ u : One, (∃ A c, u.1 = .slice A (xs[j.1]'j.2).length c ∧ (xs[j.1]'j.2).length ≤ c ∧ ik.C w A (xs[j.1]'j.2).length (xs[j.1]'j.2)) ∧ w.cell? (ad.add j.1) = some u.1 := by
      intro j
      obtain ⟨c, hcl, hK, hcc⟩ := hc j.1 _ (List.getElem?_eq_getElem j.2)
      obtain ⟨A, cap, rfl, hl, hC⟩ := hK
      have := hcc 0 _ rfl
      exact ⟨⟨.slice A _ cap, rfl⟩, ⟨A, cap, rfl, hl, hC⟩, by simpa [sk, Kd.slice] using this⟩
    let f : Fin xs.length → One := fun j => Classical.choose (hex j)
    have hf := fun j => Classical.choose_spec (hex j)
    refine ⟨List.ofFn f, List.length_ofFn, ?_, fun j x u hx hu => ?_⟩
    · refine ⟨by rw [List.length_ofFn]; exact h1, h2, fun _ => ⟨ad, rfl, fun j p hp => ?_⟩⟩
      obtain ⟨hj, he⟩ := List.getElem?_eq_some_iff.1 hp
      rw [List.length_ofFn] at hj
      rw [List.getElem_ofFn] at he
      refine ⟨[p.1], rfl, rfl, fun m v hv => ?_⟩
      cases m with
      | zero =>
        simp at hv
        subst hv
        have := (hf ⟨j, hj⟩).2
        rw [show Classical.choose (hex ⟨j, hj⟩) = p from he] at this
        show w.cell? (ad.add (j * 1 + 0)) = some p.1
        rw [Nat.mul_one, Nat.add_zero]
        exact this
      | succ m => simp at hv
    · obtain ⟨hj, he⟩ := List.getElem?_eq_some_iff.1 hu
      rw [List.length_ofFn] at hj
      rw [List.getElem_ofFn] at he
      have hx2 : xs[j]'hj = x := by
        obtain ⟨_, hh⟩ := List.getElem?_eq_some_iff.1 hx
        exact hh
      have := (hf ⟨j, hj⟩).1
      rw [show Classical.choose (hex ⟨j, hj⟩) = u from he] at this
      simp only [hx2] at this
      exact this

/-- The row of rows while its first k elements have been copied: the cells us, f: whose block is whose. -/
def Mix (w wr : World) (base g1 : Nat) (v0 v1 : Value) (l : List (List Int)) (k : Nat) (us : List One) : Prop :=
  us.length = l.length ∧ Kd.R cellK 24 wr base (fun b => some b = v1.ownBlock) v1 us ∧ ∃ f : Nat → Nat,
    (∀ (j : Nat) (x : List Int) (u : One), j < k → l[j]? = some x → us[j]? = some u → ik.R 3 wr base (fun b => f b = j ∧ b ≠ g1 ∧ b ≠ g1 + 1 ∧ some b ≠ v0.ownBlock ∧ some b ≠ v1.ownBlock) u.1 x) ∧
    (∀ (j : Nat) (x : List Int) (u : One), k ≤ j → l[j]? = some x → us[j]? = some u → ∃ A c, u.1 = .slice A x.length c ∧ x.length ≤ c ∧ ik.C w A x.length x)

theorem Mix.start {w wr : World} {base g1 : Nat} {v0 v1 : Value} {l : List (List Int)} {us : List One} (hl : us.length = l.length) (hR : Kd.R cellK 24 wr base (fun _ => True) v1 us)
    (hu : ∀ (j : Nat) (x : List Int) (u : One), l[j]? = some x → us[j]? = some u → ∃ A c, u.1 = .slice A x.length c ∧ x.length ≤ c ∧ ik.C w A x.length x) : Mix w wr base g1 v0 v1 l 0 us :=
  ⟨hl, Kd.R_mono (Kd.R_tight rfl hR) (fun _ h => h), fun _ => 0, fun _ _ _ h => absurd h (Nat.not_lt_zero _), fun j x u _ hx hu' => hu j x u hx hu'⟩

theorem Mix.move {w wr wr' : World} {base g1 : Nat} {v0 v1 : Value} {l : List (List Int)} {k : Nat} {us : List One} (h : Mix w wr base g1 v0 v1 l k us) (hb : Below wr.heap.size wr wr') : Mix w wr' base g1 v0 v1 l k us := by
  obtain ⟨h1, h2, f, h3, h4⟩ := h
  exact ⟨h1, Kd.R_below h2 hb, f, fun j x u hj hx hu => Kd.R_below (h3 j x u hj hx hu) hb, h4⟩
/-- A store into one of the two variables' blocks. -/
theorem Mix.far {w wr : World} {base g1 : Nat} {v0 v1 : Value} {l : List (List Int)} {k : Nat} {us : List One} (h : Mix w wr base g1 v0 v1 l k us) (p : Addr) (hp : p.block = g1 ∨ p.block = g1 + 1) (hp1 : some p.block ≠ v1.ownBlock) (u : Value) : Mix w (wr.setCell p u) base g1 v0 v1 l k us := by
  obtain ⟨h1, h2, f, h3, h4⟩ := h
  refine ⟨h1, Kd.R_far h2 (fun b hb he => hp1 (by rw [← he]; exact hb)) u, f, fun j x u' hj hx hu => Kd.R_far (h3 j x u' hj hx hu) (fun b hb he => ?_) u, h4⟩
  rcases hp with hp | hp
  · exact hb.2.1 (by omega)
  · exact hb.2.2.1 (by omega)
theorem R_own {α : Type} {d : Kd α} {e : Nat} {w : World} {base : Nat} {ok : Nat → Prop} {v : Value} {xs : List α} (h : d.R e w base ok v xs) (b : Nat) (hb : v.ownBlock = some b) : ok b := h.1 b hb

open Classical in
theorem Mix.step {w wr w2 : World} {base g1 g n cap : Nat} {v0 : Value} {l : List (List Int)} {k : Nat} {us : List One} (h : Mix w wr base g1 v0 (.slice (some ⟨g, 0, none⟩) n cap) l k us)
    (hb1 : base ≤ wr.heap.size) (hg1 : g1 + 1 < wr.heap.size) (hv0 : ∀ b, v0.ownBlock = some b → b < wr.heap.size) (hg : g < wr.heap.size) {u : Value} {x : List Int} (hx : l[k]? = some x) (hk : k < n)
    (hb : Below wr.heap.size wr w2) (hu : ik.R 3 w2 wr.heap.size (fun _ => True) u x) (h1 : u.oneCell' = true) :
    Mix w (w2.setCell ⟨g, k, none⟩ u) base g1 v0 (.slice (some ⟨g, 0, none⟩) n cap) l (k + 1) (us.set k ⟨u, h1⟩) := by
  obtain ⟨hl, hR, f, h3, h4⟩ := h
  have hR2 := Kd.R_below hR hb
  have hput := Kd.R_putn (enc := Subtype.val) (h1 := fun x : One => x.2) hR2 (k : Int) (⟨u, h1⟩ : One)
  rw [Int.toNat_natCast] at hput
  have hgo : (Value.slice (some ⟨g, 0, none⟩) n cap).ownBlock = some g := by simp [Value.ownBlock]
  refine ⟨by rw [List.length_set]; exact hl, hput, fun b => if wr.heap.size ≤ b then k else f b, fun j y u' hj hy hu' => ?_, fun j y u' hj hy hu' => ?_⟩
  · rcases Nat.lt_or_ge j k with hjk | hjk
    · rw [List.getElem?_set_ne (by omega)] at hu'
      have ha := Kd.R_bound (h3 j y u' hjk hy hu')
      have hb2 := Kd.R_below ha hb
      refine Kd.R_mono (Kd.R_far hb2 (fun b hb' he => hb'.1.2.2.2.2 (by rw [hgo]; rw [he])) u) (fun b hb' => ⟨?_, hb'.1.2⟩)
      have hlt : ¬ (wr.heap.size ≤ b) := by have := hb'.2.2.1; omega
      exact (if_neg hlt).trans hb'.1.1
    · obtain rfl : j = k := by omega
      have hjl : j < us.length := by rw [hl]; exact (List.getElem?_eq_some_iff.1 hy).1
      rw [List.getElem?_set_self hjl] at hu'
      injection hu' with hu'
      subst hu'
      obtain rfl : x = y := by rw [hx] at hy; injection hy
      have hb2 := Kd.R_bound hu
      refine Kd.R_lower (Kd.R_mono (Kd.R_far hb2 (fun b hb' he => ?_) u) (fun b hb' => ⟨if_pos hb'.2.1, ?_, ?_, fun he => ?_, fun he => ?_⟩)) hb1
      · have := hb'.2.1
        have he2 : b = g := he
        omega
      · have := hb'.2.1; omega
      · have := hb'.2.1; omega
      · have := hv0 b he.symm; have := hb'.2.1; omega
      · rw [hgo] at he; injection he with he; have := hb'.2.1; omega
  · rw [List.getElem?_set_ne (by omega)] at hu'
    exact h4 j y u' (by omega) hy hu'

/-- At the end all inner rows are new ones, no two of one block. -/
theorem Mix.done {w wr : World} {base g1 : Nat} {v0 v1 : Value} {l : List (List Int)} {us : List One} (h : Mix w wr base g1 v0 v1 l l.length us) (hv : ∀ b, v0.ownBlock = some b → v1.ownBlock ≠ some b) : sk.S 24 wr base (fun b => some b ≠ v0.ownBlock) v1 l := by
  obtain ⟨hl, hR, f, h3, _⟩ := h
  obtain ⟨h0, inner, ho, hr⟩ := hR
  refine ⟨f, fun b hb he => hv b he.symm hb, inner, by rw [List.length_zipIdx, ← hl]; exact ho, by have := hr.1; rw [List.length_zipIdx, ← hl]; exact this, fun j p hj => ?_⟩
  rw [List.getElem?_zipIdx, Nat.zero_add] at hj
  obtain ⟨x, hx, rfl⟩ := Option.map_eq_some_iff.1 hj
  have hjl : j < us.length := by rw [hl]; exact (List.getElem?_eq_some_iff.1 hx).1
  have hc := hr.2 j _ (List.getElem?_eq_getElem hjl)
  have hu := h3 j x _ (by rw [← hl]; exact hjl) hx (List.getElem?_eq_getElem hjl)
  exact ⟨_, hc, Kd.R_mono hu (fun b hb => ⟨⟨hb.2.2.2.1, hb.2.2.2.2⟩, hb.1⟩)⟩


/-- Behind the first statement: the two variables' blocks, the two copies. -/
def Mid1 (w : World) (l0 : List Int) (us : List One) (wc : World) : Prop :=
  ∃ v0 v1 : Value, wc.heap[w.heap.size]? = some (.cells #[v0, v1] 27 (0, 0)) ∧ wc.heap[w.heap.size + 1]? = some (.cells #[.slice none 0 0, .slice none 0 0] 27 (0, 0)) ∧
    ik.R 3 wc w.heap.size (fun _ => True) v0 l0 ∧ Kd.R cellK 24 wc w.heap.size (fun _ => True) v1 us ∧ Below w.heap.size w wc

theorem Mid1.of {w w1 w2 : World} {l0 : List Int} {us : List One} {v0 v1 x0 x1 : Value} (hX : w2.heap[w.heap.size]? = some (.cells #[x0, x1] 27 (0, 0))) (hY : w2.heap[w.heap.size + 1]? = some (.cells #[.slice none 0 0, .slice none 0 0] 27 (0, 0)))
    (h0 : ik.R 3 w1 w.heap.size (fun _ => True) v0 l0) (hb0 : Below w.heap.size w w1) (h1 : Kd.R cellK 24 w2 w1.heap.size (fun _ => True) v1 us) (hb1 : Below w1.heap.size w1 w2) :
    Mid1 w l0 us ((w2.setCell ⟨w.heap.size, 0, none⟩ v0).setCell ⟨w.heap.size, 1, none⟩ v1) := by
  have g1 := blk_set hX 0 v0
  have g2 := blk_set g1 1 v1
  have k1 := blk_far hY (p := ⟨w.heap.size, 0, none⟩) (by show w.heap.size + 1 ≠ w.heap.size; omega) v0
  have k2 := blk_far k1 (p := ⟨w.heap.size, 1, none⟩) (by show w.heap.size + 1 ≠ w.heap.size; omega) v1
  refine ⟨v0, v1, g2, k2, Kd.R_set (Kd.R_set (Kd.R_below h0 hb1) hX (by intro q hq; simp [ik, Kd.int, Kd.scalar] at hq; omega) 0 v0) g1 (by intro q hq; simp [ik, Kd.int, Kd.scalar] at hq; omega) 1 v1,
    Kd.R_set (Kd.R_set (Kd.R_lower h1 hb0.size) hX (by intro q hq; simp [cellK, Kd.scalar] at hq; omega) 0 v0) g1 (by intro q hq; simp [cellK, Kd.scalar] at hq; omega) 1 v1,
    below_set (below_set (below_then hb0 hb0.size hb1) (Nat.le_refl _)) (Nat.le_refl _)⟩
theorem bcell {W w1 : World} (hb : Below W.heap.size W w1) : (∀ b o, b < W.heap.size → w1.cell? ⟨b, o, none⟩ = W.cell? ⟨b, o, none⟩) ∧ (∀ b o, b < W.heap.size → w1.frozen? ⟨b, o, none⟩ = W.frozen? ⟨b, o, none⟩) :=
  ⟨fun b o h => hb.cell (p := ⟨b, o, none⟩) h, fun b o h => hb.frozen (p := ⟨b, o, none⟩) h⟩

theorem blk_new1 (w : World) (X Y : Obj) : ((w.alloc X).alloc Y).heap[w.heap.size + 1]? = some Y := by
  have := blk_new (w.alloc X) Y
  rwa [show (w.alloc X).heap.size = w.heap.size + 1 from by simp] at this
theorem Mix.at_ {w wr : World} {base g1 g n cap k : Nat} {v0 : Value} {l : List (List Int)} {us : List One} (h : Mix w wr base g1 v0 (.slice (some ⟨g, 0, none⟩) n cap) l k us) (hk : k < n) (hn : n = l.length) :
    ∃ x A c, l[k]? = some x ∧ x.length ≤ c ∧ ik.C w A x.length x ∧ wr.cell? ⟨g, k, none⟩ = some (.slice A x.length c) ∧ wr.frozen? ⟨g, k, none⟩ = false := by
  obtain ⟨hl, hR, f, _, h4⟩ := h
  have hkl : k < l.length := by omega
  have hku : k < us.length := by omega
  obtain ⟨A, c, he, hc, hC⟩ := h4 k _ _ (Nat.le_refl _) (List.getElem?_eq_getElem hkl) (List.getElem?_eq_getElem hku)
  obtain ⟨hcell, hfr⟩ := Kd.R_celln (enc := Subtype.val) (h1 := fun x : One => x.2) (⟨.slice none 0 0, rfl⟩ : One) hR (k : Int) (by omega) (by omega)
  rw [Int.toNat_natCast] at hcell hfr
  refine ⟨_, A, c, List.getElem?_eq_getElem hkl, hc, hC, ?_, hfr⟩
  rw [hcell, ← he]
  unfold rdOf
  rw [Int.toNat_natCast, List.getD_eq_getElem?_getD, List.getElem?_eq_getElem hku]
  rfl
theorem Mix.form {w wr : World} {base g1 n k cv : Nat} {A : Option Addr} {v0 : Value} {l : List (List Int)} {us : List One} (h : Mix w wr base g1 v0 (.slice A n cv) l k us) (hn : n = l.length) (hk : k < n) : ∃ g, A = some ⟨g, 0, none⟩ := by
  obtain ⟨g, cap, hv, _⟩ := Kd.R_form h.2.1 (by have := h.1; omega)
  injection hv with hv _ _
  exact ⟨g, hv⟩

/-- At the head of a round: kq rounds may come. -/
def OwnRel (w : World) (l0 : List Int) (l1 : List (List Int)) (v0 v1 : Value) (kq : Nat) (v16 : Value) (wr : World) : Prop :=
  ∃ (k : Nat) (us : List One), v16 = .int .i64 (k : Int) ∧ k + kq = l1.length + 1 ∧ 0 < kq ∧ wr.heap[w.heap.size]? = some (.cells #[v0, v1] 27 (0, 0)) ∧ wr.heap[w.heap.size + 1]? = some (.cells #[.slice none 0 0, .slice none 0 0] 27 (0, 0)) ∧
    ik.R 3 wr w.heap.size (fun _ => True) v0 l0 ∧ Mix w wr w.heap.size w.heap.size v0 v1 l1 k us ∧ Below w.heap.size w wr
/-- Behind a round's copy. -/
def OwnMid (w : World) (l0 : List Int) (l1 : List (List Int)) (v0 v1 : Value) (k : Nat) (wr : World) : Prop :=
  ∃ us : List One, wr.heap[w.heap.size]? = some (.cells #[v0, v1] 27 (0, 0)) ∧ wr.heap[w.heap.size + 1]? = some (.cells #[.slice none 0 0, .slice none 0 0] 27 (0, 0)) ∧
    ik.R 3 wr w.heap.size (fun _ => True) v0 l0 ∧ Mix w wr w.heap.size w.heap.size v0 v1 l1 k us ∧ Below w.heap.size w wr
theorem OwnMid.of {w wr w2 : World} {l0 : List Int} {l1 : List (List Int)} {v0 u : Value} {g n cap k : Nat} {us : List One} {x : List Int} (hX : wr.heap[w.heap.size]? = some (.cells #[v0, .slice (some ⟨g, 0, none⟩) n cap] 27 (0, 0))) (hY : wr.heap[w.heap.size + 1]? = some (.cells #[.slice none 0 0, .slice none 0 0] 27 (0, 0)))
    (h0 : ik.R 3 wr w.heap.size (fun _ => True) v0 l0) (hM : Mix w wr w.heap.size w.heap.size v0 (.slice (some ⟨g, 0, none⟩) n cap) l1 k us) (hB : Below w.heap.size w wr) (hx : l1[k]? = some x) (hk : k < n) (hb : Below wr.heap.size wr w2) (hu : ik.R 3 w2 wr.heap.size (fun _ => True) u x) :
    OwnMid w l0 l1 v0 (.slice (some ⟨g, 0, none⟩) n cap) (k + 1) (w2.setCell ⟨g, k, none⟩ u) := by
  have h1 : u.oneCell' = true := (Kd.R_val hu).2
  have hgo : (Value.slice (some ⟨g, 0, none⟩) n cap).ownBlock = some g := by simp [Value.ownBlock]
  have hg := Kd.R_lt hM.2.1 g hgo
  have hgb := Kd.R_base hM.2.1 g hgo
  obtain ⟨cg, hcg⟩ := Kd.R_typed hM.2.1 g hgo
  have hne1 : w.heap.size ≠ g := by
    intro he
    rw [← he, hX] at hcg
    simp at hcg
  have hne2 : w.heap.size + 1 ≠ g := by
    intro he
    rw [← he, hY] at hcg
    simp at hcg
  have hcg2 := blk_below hcg hb
  have hYlt := blk_lt hY
  exact ⟨us.set k ⟨u, h1⟩, blk_far (blk_below hX hb) hne1 u, blk_far (blk_below hY hb) hne2 u, Kd.R_set (Kd.R_below h0 hb) hcg2 (by intro q hq; simp [ik, Kd.int, Kd.scalar] at hq; omega) k u,
    hM.step hB.size hYlt (Kd.R_lt h0) hg hx hk hb hu h1, below_set (below_step hB hb) hgb⟩

set_option maxHeartbeats 4000000 in
set_option maxRecDepth 100000 in
theorem own_calls (A0 : Option Addr) (c0 : Nat) (l0 : List Int) (A1 : Option Addr) (c1 : Nat) (l1 : List (List Int)) (w : World) (hr0 : ik.C w A0 l0.length l0) (hr1 : sk.C w A1 l1.length l1)
    (h0 : l0.length < 17592186044416) (h1 : l1.length < 5864062014805) (h2 : ∀ x ∈ l1, x.length < 17592186044416) :
    Calls Try.prog 21 #[.agg #[.slice A0 l0.length c0, .slice A1 l1.length c1]] w fun e w' => ∃ v0_ v1_ : Value, e = .returned (.agg #[v0_, v1_]) ∧ ik.R 3 w' w.heap.size (fun _ => True) v0_ l0 ∧ sk.S 24 w' w.heap.size (fun k_ => some k_ ≠ (v0_ : Value).ownBlock) v1_ l1 ∧ Below w.heap.size w w' := by
  obtain ⟨us, hul, hus, hux⟩ := C_cells hr1
  have HR0 := Aside0.mk hr0
  have HUS := Aside0.mk hus
  have HUX := Aside0.mk hux
  have HUL := Aside0.mk hul
  have H0 := Aside0.mk h0
  have H1 := Aside0.mk h1
  have H2 := Aside0.mk h2
  clear hr0 hr1 hul hus hux h0 h1 h2
  go_enter Try.func21, Try.ntmps21
  go_upto_region 1 with (fail)
  go_cut [7] (fun v7 wc => Mid1 w l0 us wc)
  case first =>
    go_region_with (first | (go_at_call 22; refine (clone_int _ _ _ _ ?_ H0.out).mono ?_; (case refine_1 => repeat (first | exact HR0.out | refine Kd.C_alloc ?_ _ | refine Kd.C_drew ?_ | refine Kd.C_drewN ?_ _)); rintro e w1 ⟨v0, rfl, hv0, hb0⟩; obtain ⟨Av0, cv0, rfl⟩ := Kd.R_slice hv0; have hX : w1.heap[w.heap.size]? = some (.cells #[.slice A0 l0.length c0, .slice A1 l1.length c1] 27 (0, 0)) := blk_below (by repeat (first | (with_reducible exact blk_new _ _) | (with_reducible refine blk_alloc ?_ _) | (with_reducible refine blk_drew ?_) | (with_reducible refine blk_drewN ?_ _))) hb0; have hY : w1.heap[w.heap.size + 1]? = some (.cells #[.slice none 0 0, .slice none 0 0] 27 (0, 0)) := blk_below (by repeat (first | (with_reducible refine blk_drew ?_) | (with_reducible refine blk_drewN ?_ _) | exact blk_new1 _ _ _)) hb0; have k10 : w1.cell? ⟨w.heap.size, 0, none⟩ = some (.slice A0 l0.length c0) := blk_cell hX 0; have k11 : w1.cell? ⟨w.heap.size, 1, none⟩ = some (.slice A1 l1.length c1) := blk_cell hX 1; have f10 := blk_frozen hX 0; have f11 := blk_frozen hX 1; have HX := Aside0.mk hX; have HY := Aside0.mk hY; have HV0 := Aside0.mk (Kd.R_lower (base' := w.heap.size) hv0 (by simp; omega)); have HB0 := Aside0.mk (show Below w.heap.size w w1 from below_step (by repeat (first | (with_reducible exact Below.refl _ _) | (with_reducible apply below_alloc) | (with_reducible apply below_drew1) | (with_reducible apply pw_below_drewN))) hb0); clear hX hY hv0 hb0) | (go_at_call 26; refine (clone_cells _ _ _ us _ HUL.out ?_ H1.out).mono ?_; (case refine_1 => exact Kd.C_below (by first | exact HUS.out | exact HUS.out) (by repeat (first | exact HB0.out | (with_reducible apply below_drew1) | (with_reducible apply pw_below_drewN)))); rintro e w2 ⟨v1, rfl, hv1, hb1⟩; obtain ⟨Av1, cv1, rfl⟩ := Kd.R_slice hv1; have hX := blk_below HX.out hb1; have hY := blk_below HY.out hb1; have k20 : w2.cell? ⟨w.heap.size, 0, none⟩ = some (.slice A0 l0.length c0) := blk_cell hX 0; have k21 : w2.cell? ⟨w.heap.size, 1, none⟩ = some (.slice A1 l1.length c1) := blk_cell hX 1; have f20 := blk_frozen hX 0; have f21 := blk_frozen hX 1; have HX2 := Aside0.mk hX; have HY2 := Aside0.mk hY; have HV1 := Aside0.mk hv1; have HB1 := Aside0.mk hb1; clear hX hY hv1 hb1))
    all_goals (go_wp2; go_meet; exact Mid1.of HX2.out HY2.out HV0.out HB0.out HV1.out HB1.out)
  case rest =>
    obtain ⟨v0, v1, hX, hY, hv0, hv1, hb⟩ := hcut
    obtain ⟨Av1, cv1, rfl⟩ := Kd.R_slice hv1
    have HM := Aside0.mk (Mix.start (w := w) (base := w.heap.size) (g1 := w.heap.size) (v0 := v0) HUL.out hv1 HUX.out)
    have k1 : wc.cell? ⟨w.heap.size, 1, none⟩ = some (.slice Av1 us.length cv1) := blk_cell hX 1
    have HX := Aside0.mk hX
    have HY := Aside0.mk hY
    have HV0 := Aside0.mk hv0
    have HB := Aside0.mk hb
    clear hX hY hv0 hv1 hb
    go_wp2
    go_loopg [16] (l1.length + 1) (fun kq v16 wr => OwnRel w l0 l1 v0 (.slice Av1 us.length cv1) kq v16 wr)
    case atStart => exact ⟨0, us, rfl, by omega, by omega, HX.out, HY.out, HV0.out, HM.out, HB.out⟩
    case round =>
      clear k1
      clear HX HY HV0 HM HB
      obtain ⟨k, us1, rfl, hk1, hk2, hX, hY, hv0, hM, hB⟩ := hrel
      have HK1 := Aside0.mk hk1
      have HK2 := Aside0.mk hk2
      clear hk1 hk2
      have HX := Aside0.mk hX
      have HY := Aside0.mk hY
      have HV0 := Aside0.mk hv0
      have HM := Aside0.mk hM
      have HB := Aside0.mk hB
      clear hX hY hv0 hM hB
      have HN := Aside0.mk HUL.out
      by_cases hlt : k < us.length
      · obtain ⟨g, rfl⟩ := HM.out.form HUL.out hlt
        obtain ⟨x, Ax, cx, hx, hxc, hxC, hcell, hfr⟩ := HM.out.at_ hlt HUL.out
        have HXx := Aside0.mk hx
        have HXC := Aside0.mk hxC
        have HLT := Aside0.mk hlt
        have HCK := Aside0.mk hcell
        have hk0 : (0 : Int) ≤ (k : Int) := by omega
        have hk1 : (k : Int) < (us.length : Int) := by omega
        clear hx hxC hxc
        have kb : wr.cell? ⟨w.heap.size, 1, none⟩ = some (.slice (some ⟨g, 0, none⟩) us.length cv1) := blk_cell HX.out 1
        go_upto_region 5 with (fail)
        have HG := Aside0.mk (Kd.R_lt HM.out.2.1 g (by simp [Value.ownBlock]))
        have HFR := Aside0.mk hfr
        have HXL := Aside0.mk (H2.out x (List.mem_of_getElem? HXx.out))
        go_region_with (first | (go_at_call 22; refine (clone_int _ _ x _ ?_ (HXL.out)).mono ?_; (case refine_1 => exact Kd.C_below HXC.out (by repeat (first | exact HB.out | (with_reducible apply below_drew1) | (with_reducible apply pw_below_drewN)))); rintro e w1 ⟨u, rfl, hu, hb1⟩; obtain ⟨Au, cu, rfl⟩ := Kd.R_slice hu; have HX1 := Aside0.mk (blk_below (by repeat (first | exact HX.out | (with_reducible refine blk_drew ?_) | (with_reducible refine blk_drewN ?_ _))) hb1); have kb1 := blk_cell HX1.out 1; have kc1 := (hb1.cell (p := ⟨g, k, none⟩) HG.out).trans HCK.out; have kf1 := (hb1.frozen (p := ⟨g, k, none⟩) HG.out).trans HFR.out; have HU := Aside0.mk hu; have HB1 := Aside0.mk hb1; clear hu hb1))
        all_goals
          have hmid := Aside0.mk (OwnMid.of (w2 := w1) HX.out HY.out HV0.out HM.out HB.out HXx.out HLT.out (below_then (below_drew1 (Below.refl _ _)) (Nat.le_refl _) HB1.out) HU.out)
          have hk2 : (us.length : Int) < 5864062014805 := by have := H1.out; have := HN.out; omega
          go_wp2
          go_roundg (gk - 1)
          case measure => have := HK1.out; have := HLT.out; have := HN.out; omega
          case rel =>
            obtain ⟨us2, m1, m2, m3, m4, m5⟩ := hmid.out
            exact ⟨k + 1, us2, by first | rfl | go_num, by have := HK1.out; have := HLT.out; have := HN.out; omega, by have := HK1.out; have := HLT.out; have := HN.out; omega, m1, m2, m3, m4, m5⟩
      · obtain ⟨Av0, cv0, rfl⟩ := Kd.R_slice HV0.out
        have hge : (us.length : Int) ≤ (k : Int) := by omega
        have hkn : k = l1.length := by have := HK1.out; have := HK2.out; have := HN.out; omega
        have HKN := Aside0.mk hkn
        clear hkn hlt
        have kb0 : wr.cell? ⟨w.heap.size, 0, none⟩ = some (.slice Av0 l0.length cv0) := blk_cell HX.out 0
        have kb1 : wr.cell? ⟨w.heap.size, 1, none⟩ = some (.slice Av1 us.length cv1) := blk_cell HX.out 1
        have ky0 : wr.cell? ⟨w.heap.size + 1, 0, none⟩ = some (.slice none 0 0) := blk_cell HY.out 0
        have ky1 : wr.cell? ⟨w.heap.size + 1, 1, none⟩ = some (.slice none 0 0) := blk_cell HY.out 1
        have kf0 := blk_frozen HY.out 0
        have kf1 := blk_frozen HY.out 1
        go_wp2
        have g1 := blk_set HY.out 0 (.slice Av0 l0.length cv0)
        have g2 := blk_set g1 1 (.slice Av1 us.length cv1)
        have hM := HM.out
        rw [HKN.out] at hM
        have hS := hM.done (fun b hb hb1 => by
          obtain ⟨ca, hca⟩ := Kd.R_typed HV0.out b hb
          obtain ⟨cb, hcb⟩ := Kd.R_typed hM.2.1 b hb1
          rw [hca] at hcb
          simp at hcb)
        refine bodyPost_ret (results_cell_row rfl _ _ (w.heap.size + 1) 27 #[.slice Av0 l0.length cv0, .slice Av1 us.length cv1] (0, 0) _ rfl g2 Try.underlying27 rfl (by kernel_rfl)) rfl ?_
        exact ⟨_, _, rfl, Kd.R_set (Kd.R_set HV0.out HY.out (by intro q hq; simp [ik, Kd.int, Kd.scalar] at hq; omega) 0 _) g1 (by intro q hq; simp [ik, Kd.int, Kd.scalar] at hq; omega) 1 _,
          Kd.S_set (Kd.S_set hS HY.out (by intro q hq; simp [sk, Kd.slice, Kd.int, Kd.scalar] at hq; omega) 0 _) g1 (by intro q hq; simp [sk, Kd.slice, Kd.int, Kd.scalar] at hq; omega) 1 _,
          below_set (below_set HB.out (by omega)) (by omega)⟩
end Go.Proofs.Ytbjpopooijhpdaa.Own

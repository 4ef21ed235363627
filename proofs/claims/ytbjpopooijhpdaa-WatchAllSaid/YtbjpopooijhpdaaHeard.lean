/-
  Contracts, proved by hand, of Heard and Failed of the layer watch. Conditions: lengths below what an append takes.
-/
import Derived.Test.YtbjpopooijhpdaaOwn
namespace Go.Proofs.Ytbjpopooijhpdaa.Own
open Go.RowKit Go.Proofs.YtbjpopooijhpdaaW.PrintWords Go.Proofs.YtbjpopooijhpdaaW.PrintLast Go.Proofs.YtbjpopooijhpdaaW.PrintMore
set_option linter.unusedVariables false
set_option linter.unusedSimpArgs false

/-- An element of a row of rows takes a row that was made since. -/
theorem S_putrow {W W2 : World} {base g n cap : Nat} {v0 u : Value} {xs : List (List Int)} {x : List Int} (i : Int) (h0 : 0 ≤ i) (h1 : i < n) (hS : sk.S 24 W base (fun k => some k ≠ v0.ownBlock) (.slice (some ⟨g, 0, none⟩) n cap) xs) (hbase : base ≤ W.heap.size)
    (hv0 : ∀ b, v0.ownBlock = some b → b < W.heap.size) (hb : Below W.heap.size W W2) (hu : ik.R 3 W2 W.heap.size (fun _ => True) u x) :
    sk.S 24 (W2.setCell ⟨g, i.toNat, none⟩ u) base (fun k => some k ≠ v0.ownBlock) (.slice (some ⟨g, 0, none⟩) n cap) (xs.set i.toNat x) := by
  have hgl := Kd.S_lt hS g (by simp [Value.ownBlock])
  have hS2 : sk.S 24 W2 base (fun k => some k ≠ v0.ownBlock ∧ ¬ (some k ≠ v0.ownBlock ∧ W.heap.size ≤ k)) (.slice (some ⟨g, 0, none⟩) n cap) xs :=
    Kd.S_mono (Kd.S_below (Kd.S_bound hS) hb) (fun k hk => ⟨hk.1, fun h => by have := hk.2.2.1; omega⟩)
  obtain ⟨oki, c, hcl, _, _, _, _, hH⟩ := Kd.S_elem hS2 ([] : List Int) i h0 h1
  have hc1 : c.drop 1 = [] := List.drop_eq_nil_of_le (by rw [hcl]; exact Nat.le_refl _)
  have hM : sk.M W2 base (fun k => some k ≠ v0.ownBlock ∧ W.heap.size ≤ k) x (c.take 0 ++ [u] ++ c.drop (0 + [u].length)) := by
    show sk.M W2 base (fun k => some k ≠ v0.ownBlock ∧ W.heap.size ≤ k) x (c.take 0 ++ [u] ++ c.drop 1)
    rw [hc1]
    exact ⟨u, rfl, Kd.R_lower (Kd.R_mono (Kd.R_bound hu) (fun k hk => ⟨fun he => by have := hv0 k he.symm; have := hk.2.1; omega, hk.2.1⟩)) hbase⟩
  have h := (Kd.S_seg (okg := fun k => some k ≠ v0.ownBlock ∧ W.heap.size ≤ k) hH h0 h1 (seg := [u]) (j := 0) (Nat.le_refl _) hM (fun k hk => .inr hk) (fun k hk => ⟨hk.1, by have := hk.2; omega⟩)).1
  have he : W2.setCells g (i.toNat * sk.sz + 0) [u] = W2.setCell ⟨g, i.toNat, none⟩ u := by
    show W2.setCells g (i.toNat * 1 + 0) [u] = _
    rw [Nat.mul_one, Nat.add_zero]
    rfl
  rw [he] at h
  exact h

theorem C_two {α : Type} {d : Kd α} {w : World} {A : Option Addr} {n : Nat} {xs : List α} (h : d.C w A n xs) (X Y : Obj) : d.C ((w.alloc X).alloc Y) A n xs := Kd.C_alloc (Kd.C_alloc h X) Y

theorem W_drew {W : World} {g : Nat} {o : Obj} (h : W.heap[g]? = some o) : W.drew.heap[g]? = some o := h
/-- A watch's two values, stored into a variable. -/
structure Has (w W : World) (base : Nat) (v0 v1 : Value) (l0 : List Int) (l1 : List (List Int)) : Prop where
  r : ik.R 3 W base (fun _ => True) v0 l0
  s : sk.S 24 W base (fun k_ => some k_ ≠ v0.ownBlock) v1 l1
  b : Below w.heap.size w W
theorem Has.store {w W : World} {base q : Nat} {v0 v1 y0 y1 x0 x1 : Value} {l0 : List Int} {l1 : List (List Int)} (h : Has w W base v0 v1 l0 l1) (hY : W.heap[q]? = some (.cells #[y0, y1] 27 (0, 0))) (hq : w.heap.size ≤ q) :
    Has w ((W.setCell ⟨q, 0, none⟩ x0).setCell ⟨q, 1, none⟩ x1) base v0 v1 l0 l1 ∧ ((W.setCell ⟨q, 0, none⟩ x0).setCell ⟨q, 1, none⟩ x1).heap[q]? = some (.cells #[x0, x1] 27 (0, 0)) := by
  have g1 := blk_set hY 0 x0
  have g2 := blk_set g1 1 x1
  exact ⟨⟨Kd.R_set (Kd.R_set h.r hY (by intro q hq; simp [ik, Kd.int, Kd.scalar] at hq; omega) 0 _) g1 (by intro q hq; simp [ik, Kd.int, Kd.scalar] at hq; omega) 1 _,
    Kd.S_set (Kd.S_set h.s hY (by intro q hq; simp [sk, Kd.slice, Kd.int, Kd.scalar] at hq; omega) 0 _) g1 (by intro q hq; simp [sk, Kd.slice, Kd.int, Kd.scalar] at hq; omega) 1 _,
    below_set (below_set h.b hq) hq⟩, g2⟩
theorem far2 {W : World} {q p : Nat} {x0 x1 : Value} {t : TypeId} {cs : Array Value} (hX : W.heap[p]? = some (.cells cs t (0, 0))) (hne : p ≠ q) : ((W.setCell ⟨q, 0, none⟩ x0).setCell ⟨q, 1, none⟩ x1).heap[p]? = some (.cells cs t (0, 0)) :=
  blk_far (blk_far hX (p := ⟨q, 0, none⟩) hne x0) (p := ⟨q, 1, none⟩) hne x1
theorem Has.of {w W w1 : World} {base : Nat} {v0 v1 : Value} {l0 : List Int} {l1 : List (List Int)} (hr : ik.R 3 w1 base (fun _ => True) v0 l0) (hs : sk.S 24 w1 base (fun k_ => some k_ ≠ v0.ownBlock) v1 l1) (hb0 : Below w.heap.size w W) (hb : Below W.heap.size W w1) (hbase : w.heap.size ≤ base) : Has w w1 w.heap.size v0 v1 l0 l1 :=
  ⟨Kd.R_lower hr hbase, Kd.S_lower hs hbase, below_step hb0 hb⟩

set_option maxHeartbeats 4000000 in
set_option maxRecDepth 100000 in
theorem heard_out (A0 : Option Addr) (c0 : Nat) (l0 : List Int) (A1 : Option Addr) (c1 : Nat) (l1 : List (List Int)) (a : Int) (A2 : Option Addr) (c2 : Nat) (l2 : List Int) (w : World) (hr0 : ik.C w A0 l0.length l0) (hr1 : sk.C w A1 l1.length l1)
    (h0 : l0.length < 17592186044416) (h1 : l1.length < 5864062014805) (h2 : ∀ x ∈ l1, x.length < 17592186044416) (hout : a < 0 ∨ (l0.length : Int) ≤ a) :
    Calls Try.prog 8 #[.agg #[.slice A0 l0.length c0, .slice A1 l1.length c1], .int .i64 a, .slice A2 l2.length c2] w fun e w' => ∃ v0_ v1_ : Value, e = .returned (.agg #[v0_, v1_]) ∧ ik.R 3 w' w.heap.size (fun _ => True) v0_ l0 ∧ sk.S 24 w' w.heap.size (fun k_ => some k_ ≠ (v0_ : Value).ownBlock) v1_ l1 ∧ Below w.heap.size w w' := by
  have HR0 := Aside0.mk hr0
  have HR1 := Aside0.mk hr1
  have H0 := Aside0.mk h0
  have H1 := Aside0.mk h1
  have H2 := Aside0.mk h2
  clear hr0 hr1 h0 h1 h2
  obtain ⟨b1, hb1⟩ : ∃ b : Bool, decide (a < 0) = b := ⟨_, rfl⟩
  have hdec : b1 = true ∨ b1 = false ∧ decide ((l0.length : Int) ≤ a) = true := by
    cases b1 with
    | true => exact .inl rfl
    | false => exact .inr ⟨rfl, decide_eq_true (hout.resolve_left (of_decide_eq_false hb1))⟩
  clear hout
  rcases hdec with rfl | ⟨rfl, hd⟩
  all_goals
    go_enter Try.func8, Try.ntmps8
    go_wp2_with (go_at_call 21; refine (own_calls A0 c0 l0 A1 c1 l1 _ (C_two HR0.out _ _) (C_two HR1.out _ _) H0.out H1.out H2.out).mono ?_; rintro e w1 ⟨v0, v1, rfl, hv0, hv1, hb⟩; obtain ⟨Av0, cv0, rfl⟩ := Kd.R_slice hv0; obtain ⟨Av1, cv1, rfl⟩ := Kd.S_slice hv1; have hX := blk_below (blk_alloc (blk_new w _) _) hb; have hY := blk_below (blk_new1 w _ _) hb; have k0 : w1.cell? ⟨w.heap.size, 0, none⟩ = some (.slice A0 l0.length c0) := blk_cell hX 0; have k1 : w1.cell? ⟨w.heap.size, 1, none⟩ = some (.slice A1 l1.length c1) := blk_cell hX 1; have f0 := blk_frozen hX 0; have f1 := blk_frozen hX 1; have k2 : w1.cell? ⟨w.heap.size + 1, 0, none⟩ = some (.slice none 0 0) := blk_cell hY 0; have k3 : w1.cell? ⟨w.heap.size + 1, 1, none⟩ = some (.slice none 0 0) := blk_cell hY 1; have f2 := blk_frozen hY 0; have f3 := blk_frozen hY 1; have HX := Aside0.mk hX; have HY := Aside0.mk hY; have HS := Aside0.mk (Has.of hv0 hv1 (below_alloc (below_alloc (Below.refl _ _) _) _) hb (by simp; omega)); clear hX hY hv0 hv1 hb)
    obtain ⟨hs1, _⟩ := HS.out.store (x0 := .slice Av0 l0.length cv0) (x1 := .slice Av1 l1.length cv1) HX.out (Nat.le_refl _)
    obtain ⟨hs2, hh⟩ := hs1.store (x0 := .slice Av0 l0.length cv0) (x1 := .slice Av1 l1.length cv1) (far2 HY.out (by omega)) (by omega)
    refine bodyPost_ret (results_cell_row rfl _ _ (w.heap.size + 1) 27 #[.slice Av0 l0.length cv0, .slice Av1 l1.length cv1] (0, 0) _ rfl hh Try.underlying27 rfl (by kernel_rfl)) rfl ?_
    exact ⟨_, _, rfl, hs2.r, hs2.s, hs2.b⟩

theorem below_both {W W2 : World} (h : Below W.heap.size W W2) (p : Addr) (x : Value) : Below W.heap.size (W.setCell p x) (W2.setCell p x) := by
  refine ⟨h.os, h.tape, h.output, by simpa [World.setCell] using h.size, fun k hk => ?_⟩
  have hb := h.block k hk
  simp only [World.setCell, Array.getElem?_modify]
  split
  · rw [hb]
  · exact hb
theorem size_setCell (W : World) (p : Addr) (x : Value) : (W.setCell p x).heap.size = W.heap.size := by simp [World.setCell]
/-- A place of a watch is set: 0 ticks, and what was said, as a row made since. -/
theorem Has.put {w W W2 : World} {base g0 g1 n0 n1 cap0 cap1 : Nat} {u : Value} {l0 l2 : List Int} {l1 : List (List Int)} (h : Has w W base (.slice (some ⟨g0, 0, none⟩) n0 cap0) (.slice (some ⟨g1, 0, none⟩) n1 cap1) l0 l1) (i : Int) (h0 : 0 ≤ i) (hi1 : i < n1)
    (hb : Below W.heap.size W W2) (hu : ik.R 3 W2 W.heap.size (fun _ => True) u l2) (hwb : w.heap.size ≤ base) (hbase : base ≤ W.heap.size) :
    Has w ((W2.setCell ⟨g0, i.toNat, none⟩ (.int .i64 0)).setCell ⟨g1, i.toNat, none⟩ u) base (.slice (some ⟨g0, 0, none⟩) n0 cap0) (.slice (some ⟨g1, 0, none⟩) n1 cap1) (l0.set i.toNat 0) (l1.set i.toNat l2) := by
  have hg0 : (Value.slice (some ⟨g0, 0, none⟩) n0 cap0).ownBlock = some g0 := by simp [Value.ownBlock]
  have hg1 : (Value.slice (some ⟨g1, 0, none⟩) n1 cap1).ownBlock = some g1 := by simp [Value.ownBlock]
  have hl0 := Kd.R_lt h.r g0 hg0
  have hb0 := Kd.R_base h.r g0 hg0
  have hl1 := Kd.S_lt h.s g1 hg1
  have hb1 := Kd.S_base h.s g1 hg1
  obtain ⟨ca, hca⟩ := Kd.S_typed h.s g1 hg1
  obtain ⟨cb, hcb⟩ := Kd.R_typed h.r g0 hg0
  have hne : g1 ≠ g0 := by
    intro he
    rw [← he, hca] at hcb
    simp at hcb
  have hr2 := Kd.R_putn (enc := Value.int .i64) (h1 := fun _ => rfl) (Kd.R_below h.r hb) i (0 : Int)
  have hca2 : (W2.setCell ⟨g0, i.toNat, none⟩ (.int .i64 0)).heap[g1]? = some (.cells ca 24 (0, 0)) := blk_far (blk_below hca hb) (p := ⟨g0, i.toNat, none⟩) hne _
  have hS1 : sk.S 24 (W.setCell ⟨g0, i.toNat, none⟩ (.int .i64 0)) base (fun k => some k ≠ (Value.slice (some ⟨g0, 0, none⟩) n0 cap0).ownBlock) (.slice (some ⟨g1, 0, none⟩) n1 cap1) l1 := Kd.S_far h.s (p := ⟨g0, i.toNat, none⟩) (fun k hk he => hk (by rw [hg0]; rw [he])) _
  have hu1 : ik.R 3 (W2.setCell ⟨g0, i.toNat, none⟩ (.int .i64 0)) (W.setCell ⟨g0, i.toNat, none⟩ (.int .i64 0)).heap.size (fun _ => True) u l2 := by
    rw [size_setCell]
    exact Kd.R_mono (Kd.R_far (p := ⟨g0, i.toNat, none⟩) (Kd.R_bound hu) (fun k hk he => by have := hk.2.1; have he2 : k = g0 := he; omega) _) (fun _ _ => trivial)
  have hbb : Below (W.setCell ⟨g0, i.toNat, none⟩ (.int .i64 0)).heap.size (W.setCell ⟨g0, i.toNat, none⟩ (.int .i64 0)) (W2.setCell ⟨g0, i.toNat, none⟩ (.int .i64 0)) := by
    rw [size_setCell]
    exact below_both hb _ _
  refine ⟨Kd.R_set hr2 hca2 (by intro q hq; simp [Kd.scalar] at hq; omega) _ _, S_putrow (W := W.setCell ⟨g0, i.toNat, none⟩ (.int .i64 0)) i h0 hi1 hS1 (by rw [size_setCell]; exact hbase) (fun b hb' => by rw [hg0] at hb'; injection hb' with hb'; rw [size_setCell]; omega) hbb hu1, ?_⟩
  exact below_set (below_set (below_step h.b hb) (by omega)) (by omega)

def Mid9 (w : World) (v0 v1 : Value) (l0 : List Int) (l1 : List (List Int)) (wx : World) : Prop :=
  wx.heap[w.heap.size]? = some (.cells #[v0, v1] 27 (0, 0)) ∧ wx.heap[w.heap.size + 1]? = some (.cells #[.slice none 0 0, .slice none 0 0] 27 (0, 0)) ∧ Has w wx w.heap.size v0 v1 l0 l1
/-- Behind the first statement. -/
def Mid8 (w : World) (l0 : List Int) (l1 : List (List Int)) (wx : World) : Prop :=
  ∃ v0 v1 : Value, wx.heap[w.heap.size]? = some (.cells #[v0, v1] 27 (0, 0)) ∧ wx.heap[w.heap.size + 1]? = some (.cells #[.slice none 0 0, .slice none 0 0] 27 (0, 0)) ∧ Has w wx w.heap.size v0 v1 l0 l1

set_option maxHeartbeats 4000000 in
set_option maxRecDepth 100000 in
theorem heard_in (A0 : Option Addr) (c0 : Nat) (l0 : List Int) (A1 : Option Addr) (c1 : Nat) (l1 : List (List Int)) (a : Int) (A2 : Option Addr) (c2 : Nat) (l2 : List Int) (w : World) (hr0 : ik.C w A0 l0.length l0) (hr1 : sk.C w A1 l1.length l1) (hr2 : ik.C w A2 l2.length l2)
    (h0 : l0.length < 17592186044416) (h1 : l1.length < 5864062014805) (h2 : ∀ x ∈ l1, x.length < 17592186044416) (h3 : l2.length < 17592186044416) (ha0 : 0 ≤ a) (ha1 : a < l0.length) (ha2 : a < l1.length) :
    Calls Try.prog 8 #[.agg #[.slice A0 l0.length c0, .slice A1 l1.length c1], .int .i64 a, .slice A2 l2.length c2] w fun e w' => ∃ v0_ v1_ : Value, e = .returned (.agg #[v0_, v1_]) ∧ ik.R 3 w' w.heap.size (fun _ => True) v0_ (l0.set a.toNat 0) ∧ sk.S 24 w' w.heap.size (fun k_ => some k_ ≠ (v0_ : Value).ownBlock) v1_ (l1.set a.toNat l2) ∧ Below w.heap.size w w' := by
  have HR0 := Aside0.mk hr0
  have HR1 := Aside0.mk hr1
  have HR2 := Aside0.mk hr2
  have H0 := Aside0.mk h0
  have H1 := Aside0.mk h1
  have H2 := Aside0.mk h2
  have H3 := Aside0.mk h3
  have hd0 : decide (a < 0) = false := decide_eq_false (by omega)
  have hd1 : decide ((l0.length : Int) ≤ a) = false := decide_eq_false (by omega)
  clear hr0 hr1 hr2 h0 h1 h2 h3
  go_enter Try.func8, Try.ntmps8
  go_upto_region 1 with (fail)
  go_cut [8] (fun v8 wx => Mid8 w l0 l1 wx)
  case first =>
    go_wp2_with (go_at_call 21; refine (own_calls A0 c0 l0 A1 c1 l1 _ (C_two HR0.out _ _) (C_two HR1.out _ _) H0.out H1.out H2.out).mono ?_; rintro e w1 ⟨v0, v1, rfl, hv0, hv1, hb⟩; obtain ⟨Av0, cv0, rfl⟩ := Kd.R_slice hv0; obtain ⟨Av1, cv1, rfl⟩ := Kd.S_slice hv1; have hX := blk_below (blk_alloc (blk_new w _) _) hb; have hY := blk_below (blk_new1 w _ _) hb; have k0 : w1.cell? ⟨w.heap.size, 0, none⟩ = some (.slice A0 l0.length c0) := blk_cell hX 0; have k1 : w1.cell? ⟨w.heap.size, 1, none⟩ = some (.slice A1 l1.length c1) := blk_cell hX 1; have f0 := blk_frozen hX 0; have f1 := blk_frozen hX 1; have HX := Aside0.mk hX; have HY := Aside0.mk hY; have HS := Aside0.mk (Has.of hv0 hv1 (below_alloc (below_alloc (Below.refl _ _) _) _) hb (by simp; omega)); clear hX hY hv0 hv1 hb)
    go_meet
    obtain ⟨hs1, hh⟩ := HS.out.store (x0 := .slice Av0 l0.length cv0) (x1 := .slice Av1 l1.length cv1) HX.out (Nat.le_refl _)
    exact ⟨_, _, hh, far2 HY.out (by omega), hs1⟩
  case rest =>
    obtain ⟨v0, v1, hX, hY, hs⟩ := hcut
    obtain ⟨g0, cap0, rfl, hgb0, hgl0, cells0, hcg0⟩ := Kd.R_form hs.r (by omega)
    obtain ⟨g1, cap1, rfl, hgb1, hgl1, cells1, hcg1⟩ := Kd.S_form hs.s (by omega)
    obtain ⟨p0, pf0⟩ := Kd.R_celln (enc := Value.int .i64) (h1 := fun _ => rfl) (0 : Int) hs.r a ha0 ha1
    obtain ⟨oki, c, hcl, _, hcc, hcf, _, _⟩ := Kd.S_elem hs.s ([] : List Int) a ha0 ha2
    obtain ⟨uc, hcu⟩ : ∃ uc, c[0]? = some uc := ⟨_, List.getElem?_eq_getElem (by rw [hcl]; exact Nat.zero_lt_one)⟩
    have p1 : wc.cell? ⟨g1, a.toNat, none⟩ = some uc := by
      have := hcc 0 uc hcu
      rwa [show a.toNat * sk.sz + 0 = a.toNat from by show a.toNat * 1 + 0 = a.toNat; omega] at this
    have pf1 : wc.frozen? ⟨g1, a.toNat, none⟩ = false := by
      have := hcf 0
      rwa [show a.toNat * sk.sz + 0 = a.toNat from by show a.toNat * 1 + 0 = a.toNat; omega] at this
    have k0 : wc.cell? ⟨w.heap.size, 0, none⟩ = some (.slice (some ⟨g0, 0, none⟩) l0.length cap0) := blk_cell hX 0
    have k1 : wc.cell? ⟨w.heap.size, 1, none⟩ = some (.slice (some ⟨g1, 0, none⟩) l1.length cap1) := blk_cell hX 1
    have HS := Aside0.mk hs
    have HG0 := Aside0.mk hgl0
    have HG1 := Aside0.mk hgl1
    have hne1 : ¬ (g1 = g0) := by
      intro he
      rw [he, hcg0] at hcg1
      simp at hcg1
    have hne2 : ¬ (g0 = g1) := fun he => hne1 he.symm
    have hne3 : ¬ (g0 = w.heap.size) := by
      intro he
      rw [he, hX] at hcg0
      simp at hcg0
    have hne4 : ¬ (w.heap.size = g0) := fun he => hne3 he.symm
    have hne5 : ¬ (g1 = w.heap.size) := by
      intro he
      rw [he, hX] at hcg1
      simp at hcg1
    have hne6 : ¬ (w.heap.size = g1) := fun he => hne5 he.symm
    have HN1 := Aside0.mk (show w.heap.size + 1 ≠ g0 from by
      intro he
      rw [← he, hY] at hcg0
      simp at hcg0)
    have HN2 := Aside0.mk (show w.heap.size + 1 ≠ g1 from by
      intro he
      rw [← he, hY] at hcg1
      simp at hcg1)
    have HCG0 := Aside0.mk hcg0
    have HCG1 := Aside0.mk hcg1
    have HX := Aside0.mk hX
    have HY := Aside0.mk hY
    have P0 := Aside0.mk p0
    have P1 := Aside0.mk p1
    have PF0 := Aside0.mk pf0
    have PF1 := Aside0.mk pf1
    clear hX hY hs hgb0 hgb1 hgl0 hgl1 hcg0 hcg1 hcc hcf hcu p0 p1 pf0 pf1 hcl
    go_upto_region 4 with (fail)
    go_cut [26] (fun v26 wx => Mid9 w (.slice (some ⟨g0, 0, none⟩) l0.length cap0) (.slice (some ⟨g1, 0, none⟩) l1.length cap1) (l0.set a.toNat 0) (l1.set a.toNat l2) wx)
    case first =>
      go_region_with (first | (go_at_call 22; refine (clone_int A2 _ l2 _ ?_ H3.out).mono ?_; (case refine_1 => exact Kd.C_below HR2.out (by repeat (first | exact HS.out.b | (with_reducible apply below_drew1) | (with_reducible apply pw_below_drewN)))); rintro e w2 ⟨u, rfl, hu, hb2⟩; obtain ⟨Au, cu, rfl⟩ := Kd.R_slice hu; have q0 : w2.cell? ⟨w.heap.size, 0, none⟩ = some (.slice (some ⟨g0, 0, none⟩) l0.length cap0) := blk_cell (blk_below (W_drew HX.out) hb2) 0; have q1 : w2.cell? ⟨w.heap.size, 1, none⟩ = some (.slice (some ⟨g1, 0, none⟩) l1.length cap1) := blk_cell (blk_below (W_drew HX.out) hb2) 1; have r0 := (hb2.cell (p := ⟨g0, a.toNat, none⟩) HG0.out).trans P0.out; have r1 := (hb2.cell (p := ⟨g1, a.toNat, none⟩) HG1.out).trans P1.out; have rf0 := (hb2.frozen (p := ⟨g0, a.toNat, none⟩) HG0.out).trans PF0.out; have rf1 := (hb2.frozen (p := ⟨g1, a.toNat, none⟩) HG1.out).trans PF1.out; have HU := Aside0.mk hu; have HB2 := Aside0.mk hb2; clear hu hb2))
      all_goals
        have hb := Aside0.mk (below_then (below_drew1 (Below.refl wc.heap.size wc)) (Nat.le_refl _) HB2.out)
        go_wp2
        go_meet
        exact ⟨blk_far (blk_far (blk_below HX.out hb.out) (p := ⟨g0, a.toNat, none⟩) hne4 _) (p := ⟨g1, a.toNat, none⟩) hne6 _,
          blk_far (blk_far (blk_below HY.out hb.out) (p := ⟨g0, a.toNat, none⟩) HN1.out _) (p := ⟨g1, a.toNat, none⟩) HN2.out _, HS.out.put a ha0 ha2 hb.out HU.out (Nat.le_refl _) HS.out.b.size⟩
    case rest =>
      clear k0 k1
      obtain ⟨hX, hY, hs⟩ := hcut
      have k0 := blk_cell hX 0
      have k1 := blk_cell hX 1
      have k2 := blk_cell hY 0
      have k3 := blk_cell hY 1
      have f2 := blk_frozen hY 0
      have f3 := blk_frozen hY 1
      simp only [List.getElem?_toArray, List.getElem?_cons_zero, List.getElem?_cons_succ] at k0 k1 k2 k3
      have HX2 := Aside0.mk hX
      have HY2 := Aside0.mk hY
      have HS2 := Aside0.mk hs
      clear hX hY hs
      go_wp2
      obtain ⟨hs2, hh⟩ := HS2.out.store (x0 := .slice (some ⟨g0, 0, none⟩) l0.length cap0) (x1 := .slice (some ⟨g1, 0, none⟩) l1.length cap1) HY2.out (by omega)
      refine bodyPost_ret (results_cell_row rfl _ _ (w.heap.size + 1) 27 #[.slice (some ⟨g0, 0, none⟩) l0.length cap0, .slice (some ⟨g1, 0, none⟩) l1.length cap1] (0, 0) _ rfl hh Try.underlying27 rfl (by kernel_rfl)) rfl ?_
      exact ⟨_, _, rfl, hs2.r, hs2.s, hs2.b⟩
end Go.Proofs.Ytbjpopooijhpdaa.Own

/-
  The plain law behind the law ListAll: what its Lean function computes is true; and the law's walk. Conditions: none of its own.
-/
import Derived.Test.YtheooomdhbleeaaListRefL
import Derived.Test.YtheooomdhbleeaaLYa
namespace Go.Proofs.Ytheooomdhbleeaa.Pure
open Go.RowKit Go.Proofs.Ytheooomdhbleeaa.LY Go.Proofs.YtheooomdhbleeaaW.PrintWords Go.Proofs.YtheooomdhbleeaaW.PrintLast Go.Proofs.YtheooomdhbleeaaW.PrintMore
theorem ev_ifa {α : Type} {c : Prop} [Decidable c] {g h : Nat → Option α} {r : α} (hc : c) (e : Ev g r) : Ev (fun k => if c then g k else h k) r := Ev.congr (fun _ => if_pos hc) e
theorem ev_somea {α β : Type} {x : α} {f : Nat → α → Option β} {r : β} (e : Ev (fun k => f k x) r) : Ev (fun k => (some x).bind (f k)) r := e
theorem ev_const {α β : Type} {y : Option α} {x : α} {f : Nat → α → Option β} {r : β} (hy : y = some x) (e : Ev (fun k => f k x) r) : Ev (fun k => y.bind (f k)) r := by subst hy; exact e
theorem all_awake (l0 l1 : List ByteArray) (a2 : Bool) (a3 a4 : Int) (a5 : ByteArray) : Ev (fun k => caravanlaw8_ListAll.j0 k l0 l1 a2 a3 a4 a5 true) true := by
  refine Ev.step (f := fun k => (caravanlaw8_awake.f k).bind fun t => some t) (fun k => ?_) (Ev.bind awake_ev (Ev.now true))
  show caravanlaw8_ListAll.j0 (k + 1) l0 l1 a2 a3 a4 a5 true = _
  rw [caravanlaw8_ListAll.j0, if_pos rfl]
/-- What both tell of a place, and of setting there. -/
theorem both_at (l : List ByteArray) (a : Int) (v : ByteArray) (h0 : -9223372036854775808 ≤ a) (hl : l.length < 1000000000) :
    (∃ x, list_At.f l a = some x ∧ caravanref5_At.f l a = some x) ∧ (∃ y, list_Set.f l a v = some y ∧ caravanref5_LSet.f l a v = some y ∧ y.1.length < 1000000000) := by
  by_cases h : 0 ≤ pl l.length a ∧ pl l.length a < (l.length : Int)
  · obtain ⟨i, hi⟩ : ∃ i : Nat, pl l.length a = (i : Int) := ⟨(pl l.length a).toNat, by omega⟩
    have hil : i < l.length := by omega
    exact ⟨⟨_, at_in h0 hl hil hi, rat_in h0 hl hil hi⟩, ⟨_, set_in h0 hl hil hi, rset_in h0 hl hil hi, by rw [List.length_set]; exact hl⟩⟩
  · exact ⟨⟨_, at_out h0 hl h, rat_out h0 hl h⟩, ⟨_, set_out h0 hl h, rset_out h0 hl h, by decide⟩⟩
/-- What both tell of a part. -/
theorem both_sub (l : List ByteArray) (a b : Int) (h0 : -9223372036854775808 ≤ a) (h1 : -9223372036854775808 ≤ b) (hl : l.length < 1000000000) :
    ∃ x, Ev (fun k => list_Sub.f k l a b) x ∧ caravanref5_LSub.f l a b = some x ∧ x.length < 1000000000 := by
  obtain ⟨lo, hlo⟩ : ∃ lo : Nat, (lo : Int) = max (pl l.length a) 0 := ⟨(max (pl l.length a) 0).toNat, by omega⟩
  obtain ⟨hi, hhi⟩ : ∃ hi : Nat, (hi : Int) = max 0 (min (pl l.length b) ((l.length : Int) - 1) + 1) := ⟨(max 0 (min (pl l.length b) ((l.length : Int) - 1) + 1)).toNat, by omega⟩
  exact ⟨_, sub_ev hl h0 h1 hlo hhi, rsub_said hl h0 h1 hlo hhi, by rw [List.length_drop, List.length_take]; omega⟩
theorem all_j0 (l v : List ByteArray) (b : Bool) (a3 a4 : Int) (s : ByteArray) (hl : l.length ≤ 80) (hv : v.length ≤ 80) (ha : -9223372036854775808 ≤ a3 ∧ a3 ≤ 9223372036854775807) (hb : -9223372036854775808 ≤ a4) :
    Ev (fun k => caravanlaw8_ListAll.j0 k l v b a3 a4 s false) true := by
  refine Ev.step (fun k => by rw [caravanlaw8_ListAll.j0, if_neg Bool.false_ne_true]) ?_
  obtain ⟨⟨x, hx1, hx2⟩, ⟨y, hy1, hy2, hyl⟩⟩ := both_at l a3 s ha.1 (by omega)
  obtain ⟨z, hz1, hz2, hzl⟩ := both_sub l a3 a4 ha.1 hb (by omega)
  have hr1 : list_Rem.f l a3 s = some (Rem.out l a3 s, (Rem.want l a3 s : Int)) := by unfold list_Rem.f; rw [if_pos (Nat.lt_of_le_of_lt hl (by decide)), Rem.gone_length]
  have hr2 := rrem_ev l a3 s hl ha.1 ha.2
  have hro : (Rem.out l a3 s).length < 1000000000 := by have := Rem.out_length l a3 s; omega
  have hp1 := push_ev l v b (by omega) (by omega)
  have hp2 := rpush_ev l v b hl hv
  have hpl : (if b = true then v.reverse ++ l else l ++ v).length < 1000000000 := by
    split
    · rw [List.length_append, List.length_reverse]; omega
    · rw [List.length_append]; omega
  refine ev_somea (ev_ifa (by show 0 + _ < _; omega) (ev_const hx1 (ev_const hx2 (ev_const hy1 (ev_const hy2 (ev_const hr1 (Ev.bind hr2 (Ev.bind hp1 (Ev.bind hp2 (Ev.bind (texts_refl _ hpl) (ev_ifa rfl
    (Ev.bind hz1 (ev_const hz2 (Ev.bind (texts_refl _ hzl) (ev_ifa rfl (ev_ifa rfl (ev_ifa (by simp) (Ev.bind (texts_refl _ hyl) (ev_ifa rfl (ev_ifa (by simp) (Ev.bind (texts_refl _ hro) (ev_ifa rfl (ev_ifa rfl (Ev.bind (texts_same (by omega) (List.nil_append l).symm) (ev_ifa rfl (Ev.bind awake_ev (Ev.now true)))))))))))))))))))))))))))
theorem ListAll (l v : List ByteArray) (b : Bool) (a3 a4 : Int) (s : ByteArray) (ha : -9223372036854775808 ≤ a3 ∧ a3 ≤ 9223372036854775807) (hb : -9223372036854775808 ≤ a4) : ∃ k, caravanlaw8_ListAll.f k l v b a3 a4 s = some true := by
  refine Ev.rounds (r := true) ?_
  obtain ⟨g, hg, hgl⟩ := great_ev l
  obtain ⟨g2, hg2, hgl2⟩ := great_ev v
  have hd : ∀ c : Bool, (c = false → g = false ∧ g2 = false) → Ev (fun k => caravanlaw8_ListAll.j0 k l v b a3 a4 s c) true := by
    intro c hc
    cases c with
    | true => exact all_awake l v b a3 a4 s
    | false => exact all_j0 l v b a3 a4 s (hgl (hc rfl).1) (hgl2 (hc rfl).2) ha hb
  refine Ev.congr (f := fun k => (caravanlaw8_great.f k l).bind fun t256 => (if t256 = true then (caravanlaw8_ListAll.j0 k l v b a3 a4 s true) else ((caravanlaw8_great.f k v).bind fun t257 => (if t257 = true then (caravanlaw8_ListAll.j0 k l v b a3 a4 s true) else (caravanlaw8_ListAll.j0 k l v b a3 a4 s (decide ((s.size : Int) > 200)))))))
    (fun k => by show caravanlaw8_ListAll.f k l v b a3 a4 s = _; unfold caravanlaw8_ListAll.f; rfl) (Ev.bind hg ?_)
  cases g with
  | true => exact Ev.congr (fun k => if_pos rfl) (hd true (fun h => by cases h))
  | false =>
    refine Ev.congr (fun k => if_neg Bool.false_ne_true) (Ev.bind hg2 ?_)
    cases g2 with
    | true => exact Ev.congr (fun k => if_pos rfl) (hd true (fun h => by cases h))
    | false => exact Ev.congr (fun k => if_neg Bool.false_ne_true) (hd _ (fun _ => ⟨rfl, rfl⟩))
/-- The law's walk: what its row asks for. -/
theorem all_walk (W : World) (A0 : Option Addr) (c0 : Nat) (l0 : List ByteArray) (hr0 : Kd.C Kd.string W A0 l0.length l0) (hc0 : l0.length ≤ c0) (_ : c0 ≤ 9223372036854775807) (_ : ∀ x ∈ l0, x.size ≤ 9223372036854775807) (A1 : Option Addr) (c1 : Nat) (l1 : List ByteArray) (hr1 : Kd.C Kd.string W A1 l1.length l1) (hc1 : l1.length ≤ c1) (_ : c1 ≤ 9223372036854775807) (_ : ∀ x ∈ l1, x.size ≤ 9223372036854775807)
    (a2 : Bool) (a3 : Int) (w3 : (Lit.int .i64 a3).wf = true) (a4 : Int) (w4 : (Lit.int .i64 a4).wf = true) (a5 : ByteArray) (_ : a5.size ≤ 140737488351232) :
    Calls Try.prog 7 #[.slice A0 l0.length c0, .slice A1 l1.length c1, .bool a2, .int .i64 a3, .int .i64 a4, .string a5] W fun e w' => e = .returned (.bool true) ∧ Below W.heap.size W w' := by
  have h3 : -9223372036854775808 ≤ a3 ∧ a3 ≤ 9223372036854775807 := by
    simp [Lit.wf, IntKind.min, IntKind.max, IntKind.signed, IntKind.bits] at w3
    omega
  have h4 : -9223372036854775808 ≤ a4 ∧ a4 ≤ 9223372036854775807 := by
    simp [Lit.wf, IntKind.min, IntKind.max, IntKind.signed, IntKind.bits] at w4
    omega
  obtain ⟨k, hk⟩ := ListAll l0 l1 a2 a3 a4 a5 h3 h4.1
  exact caravanlaw8_ListAll.calls k A0 c0 l0 A1 c1 l1 a2 a3 a4 a5 true W hr0 hc0 hr1 hc1 hk
end Go.Proofs.Ytheooomdhbleeaa.Pure

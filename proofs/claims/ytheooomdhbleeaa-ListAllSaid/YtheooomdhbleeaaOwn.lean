/-
  Contracts, proved by hand, of slices.Clone, slices.Grow (at nil) and slices.Concat over rows of texts, as the layer list calls them. Conditions: lengths below what an append takes.
-/
import Derived.Test.YtheooomdhbleeaaProg
import Derived.Test.YtheooomdhbleeaaWMore
import Derived.Test.YtheooomdhbleeaaWApart
import Derived.Test.YtheooomdhbleeaaWN
import Derived.Test.YtheooomdhbleeaaWGuard
import Derived.Test.YtheooomdhbleeaaWZeros
import Derived.WalkSpells
import Derived.Outline
import Derived.Deep.RegionHeld3
import Derived.Deep.DrawnRows
import Derived.Deep.DeepCutAuto
import Derived.Deep.CutBlock
import Derived.KernelRfl
namespace Go.Proofs.Ytheooomdhbleeaa.Own
open Go.RowKit Go.Proofs.YtheooomdhbleeaaW.PrintWords Go.Proofs.YtheooomdhbleeaaW.PrintLast Go.Proofs.YtheooomdhbleeaaW.PrintMore
set_option linter.unusedVariables false
set_option linter.unusedSimpArgs false

theorem info9 : (Try.prog.info? 9).map (fun i => (i.zero, i.size, i.bytes)) = some (some (.string ⟨#[]⟩), 1, 16) := by kernel_rfl

theorem C_none {α : Type} {d : Kd α} {w : World} {n : Nat} {xs : List α} (h : d.C w none n xs) : xs = [] := by
  obtain ⟨h1, _, h3⟩ := h
  rcases Nat.eq_zero_or_pos n with h0 | h0
  · subst h0; exact List.eq_nil_of_length_eq_zero h1
  · obtain ⟨_, he, _⟩ := h3 h0
    cases he

set_option maxHeartbeats 1000000 in
set_option maxRecDepth 100000 in
theorem clone_str (A0 : Option Addr) (c0 : Nat) (l0 : List ByteArray) (w : World) (hr0 : Kd.C Kd.string w A0 l0.length l0) (hl : l0.length < 8796093022208) :
    Calls Try.prog 25 #[.slice A0 l0.length c0] w fun e w' => ∃ v0_ : Value, e = .returned (v0_) ∧ Kd.R Kd.string 9 w' w.heap.size (fun _ => True) v0_ l0 ∧ Below w.heap.size w w' := by
  have hnil := fun (w : World) (n c : Nat) => Lib.run_eql_slice_nil (P := Try.prog) w 25 9 A0 n c 0 0 Try.underlying25
  cases A0 with
  | none =>
    obtain rfl := C_none hr0
    clear hr0
    go_enter Try.func25, Try.ntmps25
    go_wp2
    go_ret
    exact ⟨_, rfl, Kd.R_nil _ _ _ _ _, Below.refl _ _⟩
  | some a0 =>
    have HR0 := Aside0.mk hr0
    have HL := Aside0.mk hl
    clear hr0 hl
    go_enter Try.func25, Try.ntmps25
    go_wp2_with (first | ((with_reducible refine gate_dst (N := 5) rfl ?_); refine Kd.R_lit Kd.string _ 9 ?hg (N := 5) ?hd (xs := ([] : List ByteArray)) (inner := []) (ok := fun _ => True) (okp := fun _ => True) ?hr ?hp (fun _ hk => hk) trivial (Below.refl _ _) (Nat.le_refl _) (by simp) ?_; (case hd => rfl); (case hg => rfl); (case hr => first | (go_simp; done) | (go_simp; rfl)); (case hp => exact (Reps.none _ _)); intro v1 w1 ho hb hg_ hnew_; clear hg_ hnew_; have HO := Aside0.mk ho; have HB := Aside0.mk hb; clear ho hb) | ((with_reducible refine gate_builtin (b := .append) (xs := #[.tmp 5, .tmp 6]) rfl ?_); at_builtin; refine Kd.R_append_rows Kd.string (w0 := w) w.heap.size rfl (.tmp 5) (.tmp 6) 25 9 (.string ⟨#[]⟩) 16 rfl Try.underlying25 info9 rfl (by decide) (by omega) v1 [] l0 _ _ _ (fun _ => True) (fun _ => False) rfl rfl ?aO ?aR (fun _ _ h => h) (fun _ h => h.elim) ?aF ?aB ?aS ?aL ?_; (case aR => exact Kd.C_below HR0.out HB.out); (case aB => exact HB.out); (case aF => exact (fun _ _ => trivial)); (case aO => exact HO.out); (case aS => exact HB.out.size); (case aL => have := HL.out; simp only [List.length_nil]; omega); intro v2 w2 ho hb hg hat; rw [List.nil_append] at ho; clear HO; have HO := Aside0.mk ho; have HB2 := Aside0.mk hb; clear ho hb hg hat))
    go_ret
    exact ⟨_, rfl, HO.out, HB2.out⟩
theorem at_row {w : World} {A : Option Addr} {n : Nat} {xs : List (List ByteArray)} (h : (Kd.slice 9 Kd.string).C w A n xs) (k : Nat) (hk : k < xs.length) :
    ∃ ad Ax cx x, A = some ad ∧ xs[k]? = some x ∧ w.cell? (ad.add k) = some (.slice Ax x.length cx) ∧ x.length ≤ cx ∧ Kd.string.C w Ax x.length x := by
  obtain ⟨h1, h2, h3⟩ := h
  obtain ⟨ad, rfl, hc⟩ := h3 (by omega)
  obtain ⟨c, hcl, hK, hcc⟩ := hc k _ (List.getElem?_eq_getElem hk)
  obtain ⟨Ax, cx, rfl, hl, hC⟩ := hK
  have := hcc 0 _ rfl
  exact ⟨ad, Ax, cx, xs[k], rfl, List.getElem?_eq_getElem hk, by simpa [Kd.slice] using this, hl, hC⟩
/-- How many places the first k rows hold. -/
def S (l : List (List ByteArray)) (k : Nat) : Nat := (l.take k).flatten.length
theorem S_succ {l : List (List ByteArray)} {k : Nat} {x : List ByteArray} (h : l[k]? = some x) : S l (k + 1) = S l k + x.length := by
  unfold S
  rw [List.take_add_one, h]
  simp
theorem S_le (l : List (List ByteArray)) (k : Nat) : S l k ≤ l.flatten.length := by
  unfold S
  have h : l.flatten = (l.take k).flatten ++ (l.drop k).flatten := by rw [← List.flatten_append, List.take_append_drop]
  rw [h, List.length_append]
  omega
theorem F_succ {l : List (List ByteArray)} {k : Nat} {x : List ByteArray} (h : l[k]? = some x) : (l.take (k + 1)).flatten = (l.take k).flatten ++ x := by
  rw [List.take_add_one, h]
  simp

set_option maxHeartbeats 1000000 in
set_option maxRecDepth 100000 in
theorem grow_nil (n : Nat) (w : World) (hn : n < 8796093022208) :
    Calls Try.prog 34 #[.slice none 0 0, .int .i64 (n : Int)] w fun e w' => ∃ v : Value, e = .returned v ∧ Kd.R Kd.string 9 w' w.heap.size (fun _ => True) v [] ∧ Below w.heap.size w w' := by
  have h1 : ¬ ((n : Int) < 0) := by omega
  have h2 : wrap64 ((0 : Int) - (0 : Int)) = 0 := by unfold wrap64; omega
  have h3 : wrap64 ((n : Int) - 0) = (n : Int) := by unfold wrap64; omega
  have hR := Kd.R_nil Kd.string 9 w w.heap.size (fun _ => True)
  cases n with
  | zero =>
    go_enter Try.func34, Try.ntmps34
    go_wp2
    go_ret
    exact ⟨_, rfl, hR, Below.refl _ _⟩
  | succ m =>
    have h4 : (0 : Int) < ((m + 1 : Nat) : Int) := by omega
    generalize m + 1 = n at *
    go_enter Try.func34, Try.ntmps34
    go_wp2_with (first | ((with_reducible refine gate_builtin (b := .append) (xs := #[.tmp 20, .tmp 21]) rfl ?_); at_builtin; refine Kd.R_append_zeros Kd.string (w0 := w) w.heap.size rfl (.tmp 20) (.tmp 21) 25 3 9 (.string ⟨#[]⟩) 16 rfl Try.underlying25 Try.underlying3 info9 rfl (by decide) (by omega) (.slice none 0 0) [] (⟨#[]⟩ : ByteArray) (n : Int) (fun _ => True) rfl rfl ?aZ (fun _ _ => trivial) ?aO ?a0 ?aB ?aS ?aL ?_; (case aZ => exact rfl); (case aO => exact Kd.R_nil _ _ _ _ _); (case a0 => omega); (case aB => repeat (first | exact Below.refl _ _ | (with_reducible apply below_drew1) | (with_reducible apply pw_below_drewN))); (case aS => simp); (case aL => simp only [List.length_nil]; omega); intro v1 w1 ho hb hg hat; obtain ⟨Ao, co, rfl⟩ := Kd.R_slice ho; have HO := Aside0.mk ho; have HB := Aside0.mk hb; clear ho hb hg hat))
    go_ret
    exact ⟨_, rfl, by have := Kd.R_take (m := 0) HO.out (Nat.zero_le _); simpa using this, HB.out⟩
set_option maxHeartbeats 4000000 in
set_option maxRecDepth 100000 in
theorem concat_str (A0 : Option Addr) (c0 : Nat) (l0 : List (List ByteArray)) (w : World) (hr0 : Kd.C (Kd.slice 9 Kd.string) w A0 l0.length l0) (hn : l0.length < 8796093022208) (hl : l0.flatten.length < 8796093022208) :
    Calls Try.prog 27 #[.slice A0 l0.length c0] w fun e w' => ∃ v0_ : Value, e = .returned (v0_) ∧ Kd.R Kd.string 9 w' w.heap.size (fun _ => True) v0_ l0.flatten ∧ Below w.heap.size w w' := by
  have HR0 := Aside0.mk hr0
  have HL := Aside0.mk hl
  have HN := Aside0.mk hn
  clear hr0 hl hn
  go_enter Try.func27, Try.ntmps27
  go_wp2
  go_loopg [3, 11] (l0.length + 1) (fun kq v3 v11 wr => ∃ k : Nat, v3 = .int .i64 (S l0 k : Int) ∧ v11 = .int .i64 (k : Int) ∧ k + kq = l0.length + 1 ∧ 0 < kq ∧ Drawn0 w wr)
  case atStart => exact ⟨0, rfl, rfl, by omega, by omega, by repeat (first | exact Drawn0.refl _ | apply Drawn0.step)⟩
  case round =>
    obtain ⟨k, rfl, rfl, hk1, hk2, ⟨m1, rfl⟩⟩ := hrel
    have HK1 := Aside0.mk hk1
    have HK2 := Aside0.mk hk2
    clear hk1 hk2
    by_cases hlt : k < l0.length
    · obtain ⟨ad, Ax, cx, x, rfl, hx, hcell, hxc, hxC⟩ := at_row HR0.out k hlt
      have hS := S_succ hx
      have hSL := S_le l0 (k + 1)
      have hL := HL.out
      have hN := HN.out
      have hw : wrap64 ((S l0 k : Int) + (x.length : Int)) = ((S l0 (k + 1) : Nat) : Int) := by rw [hS]; unfold wrap64; omega
      have cw : decide (((S l0 (k + 1) : Nat) : Int) < 0) = false := decide_eq_false (by omega)
      have ck : decide ((k : Int) < (l0.length : Int)) = true := decide_eq_true (by omega)
      have hk0 : 0 ≤ (k : Int) := by omega
      have hk3 : (k : Int) < (l0.length : Int) := by omega
      have HS := Aside0.mk hS
      have HW := Aside0.mk hw
      clear hS hSL hL
      go_wp2
      go_roundg (gk - 1)
      case measure => have := HK1.out; omega
      case rel => exact ⟨k + 1, by first | rfl | (rw [HW.out]), by first | rfl | go_num, by have := HK1.out; omega, by have := HK1.out; omega, by repeat (first | exact Drawn0.refl _ | apply Drawn0.step)⟩
    · have hkn : k = l0.length := by have := HK1.out; have := HK2.out; omega
      subst hkn
      obtain ⟨F, hF⟩ : ∃ F, S l0 l0.length = F := ⟨_, rfl⟩
      have hFl : F = l0.flatten.length := by rw [← hF]; unfold S; rw [List.take_length]
      have hF1 : F < 8796093022208 := by rw [hFl]; exact HL.out
      have HFL := Aside0.mk hFl
      rw [hF]
      clear hF hFl
      have ck : decide ((l0.length : Int) < (l0.length : Int)) = false := decide_eq_false (by omega)
      clear hlt
      go_wp2_with (go_at_call 34; refine (grow_nil F _ hF1).mono ?_; rintro e w1 ⟨v1, rfl, hv1, hb1⟩; obtain ⟨A1, c1, rfl⟩ := Kd.R_slice hv1; have HV1 := Aside0.mk hv1; have HB1 := Aside0.mk hb1; clear hv1 hb1)
      go_loopg [6, 27] (l0.length + 1) (fun kq v6 v27 wr => ∃ (k : Nat) (v : Value), v6 = v ∧ v27 = .int .i64 (k : Int) ∧ k + kq = l0.length + 1 ∧ 0 < kq ∧ Kd.R Kd.string 9 wr w.heap.size (fun _ => True) v (l0.take k).flatten ∧ Below w.heap.size w wr)
      case atStart =>
        exact ⟨0, _, rfl, rfl, by omega, by omega, HV1.out, below_then (w1 := w.drewN m1) (pw_below_drewN (Below.refl _ _) _) (Nat.le_refl _) HB1.out⟩
      case round =>
        clear HV1 HB1
        obtain ⟨k, v, rfl, rfl, hk1, hk2, hR, hB⟩ := hrel
        obtain ⟨Av, cv, rfl⟩ := Kd.R_slice hR
        have HK1 := Aside0.mk hk1
        have HK2 := Aside0.mk hk2
        have HR := Aside0.mk hR
        have HB := Aside0.mk hB
        clear hk1 hk2 hR hB
        by_cases hlt : k < l0.length
        · obtain ⟨ad, Ax, cx, x, rfl, hx, hcell, hxc, hxC⟩ := at_row (Kd.C_below HR0.out HB.out) k hlt
          have HX := Aside0.mk hx
          have hN := HN.out
          have HXC := Aside0.mk hxC
          have hlen := congrArg List.length (F_succ hx)
          have hle : (l0.take (k + 1)).flatten.length ≤ l0.flatten.length := S_le l0 (k + 1)
          rw [List.length_append] at hlen
          have HLE := Aside0.mk (show (l0.take k).flatten.length + x.length < 8796093022208 by have := HL.out; omega)
          clear hx hlen hle hxC
          obtain ⟨ys, hys⟩ : ∃ ys, (l0.take k).flatten = ys := ⟨_, rfl⟩
          rw [hys] at HR HLE ⊢
          have HYS := Aside0.mk hys
          clear hys
          have ck2 : decide ((k : Int) < (l0.length : Int)) = true := decide_eq_true (by omega)
          have hk0 : 0 ≤ (k : Int) := by omega
          have hk3 : (k : Int) < (l0.length : Int) := by omega
          go_wp2_with (first | ((with_reducible refine gate_builtin (b := .append) (xs := #[.tmp 31, .tmp 32]) rfl ?_); at_builtin; refine Kd.R_append_rows Kd.string (w0 := w) w.heap.size rfl (.tmp 31) (.tmp 32) 25 9 (.string ⟨#[]⟩) 16 rfl Try.underlying25 info9 rfl (by decide) (by omega) _ ys x _ _ _ (fun _ => True) (fun _ => False) rfl rfl ?aO ?aR (fun _ _ h => h) (fun _ h => h.elim) ?aF ?aB ?aS ?aL ?_; (case aR => exact HXC.out); (case aB => exact HB.out); (case aF => exact (fun _ _ => trivial)); (case aO => exact HR.out); (case aS => exact HB.out.size); (case aL => have := HLE.out; omega); intro v2 w2 ho hb hg hat; have HO := Aside0.mk ho; have HB2 := Aside0.mk hb; clear ho hb hg hat))
          go_roundg (gk - 1)
          case measure => have := HK1.out; omega
          case rel => exact ⟨k + 1, _, rfl, by first | rfl | go_num, by have := HK1.out; omega, by have := HK1.out; omega, by rw [F_succ HX.out, HYS.out]; exact HO.out, HB2.out⟩
        · have hkn : k = l0.length := by have := HK1.out; have := HK2.out; omega
          subst hkn
          have ck2 : decide ((l0.length : Int) < (l0.length : Int)) = false := decide_eq_false (by omega)
          clear hlt
          have HRf : Aside0 (Kd.R Kd.string 9 wr w.heap.size (fun _ => True) (.slice Av (l0.take l0.length).flatten.length cv) l0.flatten) := ⟨by have := HR.out; rw [List.take_length] at this ⊢; exact this⟩
          clear HR
          obtain ⟨N, hN⟩ : ∃ N, (l0.take l0.length).flatten.length = N := ⟨_, rfl⟩
          rw [hN] at HRf ⊢
          clear hN
          go_wp2
          go_ret
          exact ⟨_, rfl, HRf.out, HB.out⟩
end Go.Proofs.Ytheooomdhbleeaa.Own

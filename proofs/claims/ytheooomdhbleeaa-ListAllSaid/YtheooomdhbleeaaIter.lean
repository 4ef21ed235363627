/-
  Contracts, proved by hand, of slices.All and slices.Backward over rows of texts (values that a range over a function takes), and of list.walk. Conditions: rows of less than 8796093022208 texts.
-/
import Derived.RangeFuncNested
import Derived.RangeFuncBound
import Derived.RangeFuncCalls
import Derived.RangeFuncLeaves
import Derived.RangeFuncBox
import Derived.Shelf.Abstract
import Derived.Shelf.RegionOpen
import Derived.WalkKit
import Derived.OwnWalkIn
import Derived.TacticsInMore
import Derived.LoopNIn
import Derived.LoopIn
import Derived.Maps.AppendAt
import Derived.Test.YtheooomdhbleeaaOwn
namespace Go.Proofs.Ytheooomdhbleeaa.Rem
open Go.RowKit Go.Shelf Go.Proofs.YtheooomdhbleeaaW.PrintWords Go.Proofs.YtheooomdhbleeaaW.PrintLast Go.Proofs.YtheooomdhbleeaaW.PrintMore
set_option linter.unusedVariables false
set_option linter.unusedSimpArgs false
attribute [local go_sem] Oper.semAt_some

/-- What comes, forth (f j = j) or back. -/
def upto (l : List ByteArray) (f : Nat → Nat) (k : Nat) : List (Nat × ByteArray) := (List.range k).map fun j => (f j, l[f j]?.getD ByteArray.empty)
theorem upto_succ (l : List ByteArray) (f : Nat → Nat) (k : Nat) : upto l f (k + 1) = upto l f k ++ [(f k, l[f k]?.getD ByteArray.empty)] := by simp [upto, List.range_succ]
theorem upto_length (l : List ByteArray) (f : Nat → Nat) (k : Nat) : (upto l f k).length = k := by simp [upto]

/-- What a round keeps: what lay below n₀, and the iterator's own box. -/
def Kp (n₀ Bs : Nat) (W W' : World) : Prop := Below n₀ W W' ∧ ∀ v, Boxed W Bs 25 v → Boxed W' Bs 25 v
theorem Kp.refl (n₀ Bs : Nat) (W : World) : Kp n₀ Bs W W := ⟨Below.refl _ _, fun _ h => h⟩
theorem Kp.trans {n₀ Bs : Nat} {A B C : World} (h : Kp n₀ Bs A B) (k : Kp n₀ Bs B C) : Kp n₀ Bs A C := ⟨h.1.trans k.1, fun v hv => k.2 v (h.2 v hv)⟩

/-- The text at a place. -/
theorem text_at {w : World} {A : Option Addr} {zs : List ByteArray} (h : Kd.string.C w A zs.length zs) (k : Nat) (hk : k < zs.length) :
    ∃ ad s, A = some ad ∧ w.cell? (ad.add k) = some (.string s) ∧ zs[k]?.getD ByteArray.empty = s := by
  obtain ⟨ad, rfl, hc⟩ := Kd.at_string h (k : Int) (by omega) (by omega)
  refine ⟨ad, _, rfl, ?_, rfl⟩
  rw [Int.toNat_natCast] at hc
  rw [hc]
  unfold rdOf
  rw [Int.toNat_natCast, List.getD_eq_getElem?_getD]

set_option maxRecDepth 100000 in
set_option maxHeartbeats 2000000 in
theorem all1_in (F : Fence) (n : Nat) (hf : F.fn 36) (hro : F.round = none) (hn : 1 ≤ n) (l Bs cap : Nat) (A : Option Addr) (zs : List ByteArray) (w : World) (hC : Kd.string.C w A zs.length zs) (hz : zs.length < 8796093022208) (J Jx : List (Nat × ByteArray) → World → Prop)
    (hY : ∀ pre x W, J pre W → pre.length < zs.length → YieldAt F (n - 1) Try.prog l #[.int .i64 (x.1 : Int), .string x.2] W fun e W' =>
      (e = .returned (.bool true) ∧ J (pre ++ [x]) W' ∧ Kp w.heap.size Bs W W') ∨ (e = .returned (.bool false) ∧ Jx (pre ++ [x]) W'))
    (W : World) (hBs : Boxed W Bs 25 (.slice A zs.length cap)) (hW : Below w.heap.size w W) (h0 : J [] W) :
    CallsIn F n Try.prog 36 #[.func (.yield l) #[] #[], .pointer (some ⟨Bs, 0, none⟩)] W fun e W' => (∃ v, e = .returned v) ∧
      ((∃ ys, ys = upto zs (fun j => j) zs.length ∧ J ys W') ∨ (∃ pre, (∃ k, k ≤ zs.length ∧ pre = upto zs (fun j => j) k) ∧ Jx pre W')) := by
  refine callsIn_of_wp Try.func36 rfl hf ?_ hro
  simp only [Try.ntmps36, List.size_toArray, List.length_cons, List.length_nil, Nat.reduceAdd, Nat.reduceSub, Array.replicate_succ, Array.replicate_zero, List.push_toArray, List.append_toArray, List.nil_append, List.cons_append]
  have hc0 := hBs.cell
  gi_wp2
  gi_loopw [7] (fun i wr => ∃ k : Nat, k ≤ zs.length ∧ i = .int .i64 k ∧ J (upto zs (fun j => j) k) wr ∧ Kp w.heap.size Bs W wr)
    (fun i _ => zs.length - (intOf i).toNat)
  case atStart => exact ⟨0, Nat.zero_le _, rfl, h0, Kp.refl _ _ _⟩
  case round =>
    obtain ⟨k, hk, rfl, hJs, hnx⟩ := hrel
    by_cases hlt : k < zs.length
    · obtain ⟨ad, s, rfl, hcell, hs⟩ := text_at (Kd.C_below hC (hW.trans hnx.1)) k hlt
      obtain ⟨fn, tmps, assign, body, hy, hR⟩ := hY _ (k, s) wr hJs (by rw [upto_length]; exact hlt)
      dsimp only at hy
      gi_wp2
      refine hR.mono ?_
      rintro e W3 (⟨rfl, hJ3, hk3⟩ | ⟨rfl, hJx3⟩)
      · gi_wp2
        go_roundw
        case rel => exact ⟨k + 1, by omega, by simp, by rw [upto_succ, hs]; exact hJ3, hnx.trans hk3⟩
        case measure => simp [intOf]; omega
      · gi_wp2
        refine bodyPost_ret (results_none rfl _ _ _) rfl ?_
        exact ⟨⟨_, rfl⟩, .inr ⟨_, ⟨k + 1, by omega, by rw [upto_succ, hs]⟩, hJx3⟩⟩
    · obtain rfl : k = zs.length := by omega
      gi_wp2
      go_end0
      exact ⟨⟨_, rfl⟩, .inl ⟨_, rfl, hJs⟩⟩

set_option maxRecDepth 100000 in
set_option maxHeartbeats 2000000 in
theorem back1_in (F : Fence) (n : Nat) (hf : F.fn 35) (hro : F.round = none) (hn : 1 ≤ n) (l Bs cap : Nat) (A : Option Addr) (zs : List ByteArray) (w : World) (hC : Kd.string.C w A zs.length zs) (hz : zs.length < 8796093022208) (J Jx : List (Nat × ByteArray) → World → Prop)
    (hY : ∀ pre x W, J pre W → pre.length < zs.length → YieldAt F (n - 1) Try.prog l #[.int .i64 (x.1 : Int), .string x.2] W fun e W' =>
      (e = .returned (.bool true) ∧ J (pre ++ [x]) W' ∧ Kp w.heap.size Bs W W') ∨ (e = .returned (.bool false) ∧ Jx (pre ++ [x]) W'))
    (W : World) (hBs : Boxed W Bs 25 (.slice A zs.length cap)) (hW : Below w.heap.size w W) (h0 : J [] W) :
    CallsIn F n Try.prog 35 #[.func (.yield l) #[] #[], .pointer (some ⟨Bs, 0, none⟩)] W fun e W' => (∃ v, e = .returned v) ∧
      ((∃ ys, ys = upto zs (fun j => zs.length - 1 - j) zs.length ∧ J ys W') ∨ (∃ pre, (∃ k, k ≤ zs.length ∧ pre = upto zs (fun j => zs.length - 1 - j) k) ∧ Jx pre W')) := by
  refine callsIn_of_wp Try.func35 rfl hf ?_ hro
  simp only [Try.ntmps35, List.size_toArray, List.length_cons, List.length_nil, Nat.reduceAdd, Nat.reduceSub, Array.replicate_succ, Array.replicate_zero, List.push_toArray, List.append_toArray, List.nil_append, List.cons_append]
  have hc0 := hBs.cell
  have hw0 : wrap64 ((zs.length : Int) - 1) = (zs.length : Int) - 1 := by unfold wrap64; omega
  gi_wp2
  gi_loopw [3] (fun i wr => ∃ k : Nat, k ≤ zs.length ∧ i = .int .i64 ((zs.length : Int) - 1 - k) ∧ J (upto zs (fun j => zs.length - 1 - j) k) wr ∧ Kp w.heap.size Bs W wr)
    (fun i _ => (intOf i + 1).toNat)
  case atStart => exact ⟨0, Nat.zero_le _, by first | (simp; done) | (simp [hw0]; done), h0, Kp.refl _ _ _⟩
  case round =>
    obtain ⟨k, hk, rfl, hJs, hnx⟩ := hrel
    by_cases hlt : k < zs.length
    · obtain ⟨j, hj⟩ : ∃ j, j = zs.length - 1 - k := ⟨_, rfl⟩
      have hji : (zs.length : Int) - 1 - (k : Int) = (j : Int) := by omega
      obtain ⟨ad, s, rfl, hcell, hs⟩ := text_at (Kd.C_below hC (hW.trans hnx.1)) j (by omega)
      have hcb := (hnx.2 _ hBs).cell
      obtain ⟨fn, tmps, assign, body, hy, hR⟩ := hY _ (j, s) wr hJs (by rw [upto_length]; exact hlt)
      dsimp only at hy
      rw [hji]
      have hw1 : wrap64 ((j : Int) - 1) = (j : Int) - 1 := by unfold wrap64; omega
      have hjl : j < zs.length := by omega
      have HJ := Aside0.mk hj
      have HJI := Aside0.mk hji
      clear hj hji
      gi_wp2
      refine hR.mono ?_
      rintro e W3 (⟨rfl, hJ3, hk3⟩ | ⟨rfl, hJx3⟩)
      · gi_wp2
        go_roundw
        case rel => exact ⟨k + 1, by omega, by have := HJI.out; first | (congr 1; omega) | (simp [hw1]; omega), by rw [upto_succ, ← HJ.out, hs]; exact hJ3, hnx.trans hk3⟩
        case measure => have := HJI.out; first | (simp [intOf]; done) | (simp [intOf]; omega) | (simp [intOf, hw1]; omega)
      · gi_wp2
        refine bodyPost_ret (results_none rfl _ _ _) rfl ?_
        exact ⟨⟨_, rfl⟩, .inr ⟨_, ⟨k + 1, by omega, by rw [upto_succ, ← HJ.out, hs]⟩, hJx3⟩⟩
    · obtain rfl : k = zs.length := by omega
      have hm : (zs.length : Int) - 1 - (zs.length : Int) = -1 := by omega
      rw [hm]
      gi_wp2
      go_end0
      exact ⟨⟨_, rfl⟩, .inl ⟨_, rfl, hJs⟩⟩

set_option maxHeartbeats 1000000 in
theorem all_mk (a : Option Addr) (len cap : Nat) (w : World) :
    Calls Try.prog 32 #[.slice a len cap] w fun e w' => e = .returned (.func (.func 36) #[] #[.pointer (some ⟨w.heap.size, 0, none⟩)]) ∧ w' = w.alloc (.cells #[.slice a len cap] 25) := by
  go_enter Try.func32, Try.ntmps32
  go_wp2
  go_ret
  exact ⟨rfl, rfl⟩
set_option maxHeartbeats 1000000 in
theorem back_mk (a : Option Addr) (len cap : Nat) (w : World) :
    Calls Try.prog 31 #[.slice a len cap] w fun e w' => e = .returned (.func (.func 35) #[] #[.pointer (some ⟨w.heap.size, 0, none⟩)]) ∧ w' = w.alloc (.cells #[.slice a len cap] 25) := by
  go_enter Try.func31, Try.ntmps31
  go_wp2
  go_ret
  exact ⟨rfl, rfl⟩
set_option maxHeartbeats 1000000 in
theorem walk_true (a : Option Addr) (len cap : Nat) (w : World) :
    Calls Try.prog 22 #[.slice a len cap, .bool true] w fun e w' => e = .returned (.func (.func 35) #[] #[.pointer (some ⟨w.heap.size, 0, none⟩)]) ∧ w' = w.alloc (.cells #[.slice a len cap] 25) := by
  go_enter Try.func22, Try.ntmps22
  go_wp2_with (go_at_call 31; refine (back_mk _ _ _ _).mono ?_; rintro e w1 ⟨rfl, rfl⟩)
  go_ret
  exact ⟨rfl, rfl⟩
set_option maxHeartbeats 1000000 in
theorem walk_false (a : Option Addr) (len cap : Nat) (w : World) :
    Calls Try.prog 22 #[.slice a len cap, .bool false] w fun e w' => e = .returned (.func (.func 36) #[] #[.pointer (some ⟨w.heap.size, 0, none⟩)]) ∧ w' = w.alloc (.cells #[.slice a len cap] 25) := by
  go_enter Try.func22, Try.ntmps22
  go_wp2_with (go_at_call 32; refine (all_mk _ _ _ _).mono ?_; rintro e w1 ⟨rfl, rfl⟩)
  go_ret
  exact ⟨rfl, rfl⟩

/-- The two values keep the law of a range over a function. -/
theorem Kp_b {n₀ Bs : Nat} {w : World} (hn : n₀ ≤ w.heap.size) (W : World) (l : Nat) (o o' : Obj) (hl : w.heap.size ≤ l) (h : W.heap[l]? = some o) (hc : o.isCells = false) (hk : o.isWalk = false) : Kp n₀ Bs W (W.putObj l o') :=
  ⟨belowK_b hn W l o o' hl h hc hk, fun v hv => hv.kept (grownBy_putObj' W l o') (fun e => by cases e; rw [show W.heap[Bs]? = _ from hv] at h; cases h; cases hc)⟩
theorem all_stops (F : Fence) (n : Nat) (hf : F.fn 36) (hro : F.round = none) (hn : 1 ≤ n) (Bs cap : Nat) (A : Option Addr) (zs : List ByteArray) (w w1 : World) (hC : Kd.string.C w A zs.length zs) (hz : zs.length < 8796093022208) (hBs : Boxed w1 Bs 25 (.slice A zs.length cap)) (hw : Below w.heap.size w w1) :
    SeqStopsK F n Try.prog 36 #[.pointer (some ⟨Bs, 0, none⟩)] (fun x : Nat × ByteArray => #[Value.int .i64 (x.1 : Int), Value.string x.2]) (Kp w.heap.size Bs) (fun ys => ys = upto zs (fun j => j) zs.length)
      (fun pre => ∃ k, k ≤ zs.length ∧ pre = upto zs (fun j => j) k) zs.length w1 := fun l J Jx W hW _ _ hY h0 =>
  all1_in F n hf hro hn l Bs cap A zs w hC hz J Jx hY W (blk_below hBs hW) (hw.trans (hW.mono hw.size)) h0
theorem back_stops (F : Fence) (n : Nat) (hf : F.fn 35) (hro : F.round = none) (hn : 1 ≤ n) (Bs cap : Nat) (A : Option Addr) (zs : List ByteArray) (w w1 : World) (hC : Kd.string.C w A zs.length zs) (hz : zs.length < 8796093022208) (hBs : Boxed w1 Bs 25 (.slice A zs.length cap)) (hw : Below w.heap.size w w1) :
    SeqStopsK F n Try.prog 35 #[.pointer (some ⟨Bs, 0, none⟩)] (fun x : Nat × ByteArray => #[Value.int .i64 (x.1 : Int), Value.string x.2]) (Kp w.heap.size Bs) (fun ys => ys = upto zs (fun j => zs.length - 1 - j) zs.length)
      (fun pre => ∃ k, k ≤ zs.length ∧ pre = upto zs (fun j => zs.length - 1 - j) k) zs.length w1 := fun l J Jx W hW _ _ hY h0 =>
  back1_in F n hf hro hn l Bs cap A zs w hC hz J Jx hY W (blk_below hBs hW) (hw.trans (hW.mono hw.size)) h0
end Go.Proofs.Ytheooomdhbleeaa.Rem

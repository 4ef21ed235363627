/-
  Proved: whatever bools says, silent, me are handed in, the law WatchMost of the watch layer answers true: one has failed just if it is suspected, and more than half of the masters say so.
  Conditions: none of its own.
-/
import Derived.Test.YtbjpopooijhpdaaWXx5
import Derived.Test.YtbjpopooijhpdaaWatchL
namespace Go.Proofs.Ytbjpopooijhpdaa.Pure
open Go.RowKit Go.Proofs.Ytbjpopooijhpdaa.WX Go.Proofs.YtbjpopooijhpdaaW.PrintWords Go.Proofs.YtbjpopooijhpdaaW.PrintLast Go.Proofs.YtbjpopooijhpdaaW.PrintMore
open Go.Proofs.Ytbjpopooijhpdaa.WatchL

theorem most_five : ∀ a b c d e s m : Bool, caravanlaw17_WatchMost.f 70 [a, b, c, d, e] s m = some true := by decide +kernel
theorem most (l : List Bool) (s m : Bool) : caravanlaw17_WatchMost.f 70 l s m = some true := by
  by_cases h : l.length = 5
  · match l, h with
    | [a, b, c, d, e], _ => exact most_five a b c d e s m
  · unfold caravanlaw17_WatchMost.f
    rw [if_neg (by omega), awake_f 70 (by omega)]
    rfl
/-- The call, whatever it is handed. -/
theorem most_walk (W : World) (A0 : Option Addr) (c0 : Nat) (l0 : List Bool) (hr : Kd.bool.C W A0 l0.length l0) (hc : l0.length ≤ c0) (_hm : c0 ≤ 9223372036854775807) (a1 a2 : Bool) :
    Calls Try.prog 5 #[.slice A0 l0.length c0, .bool a1, .bool a2] W fun e w' => e = .returned (.bool true) ∧ Below W.heap.size W w' :=
  caravanlaw17_WatchMost.calls 70 A0 c0 l0 a1 a2 true W hr hc (most l0 a1 a2)
end Go.Proofs.Ytbjpopooijhpdaa.Pure

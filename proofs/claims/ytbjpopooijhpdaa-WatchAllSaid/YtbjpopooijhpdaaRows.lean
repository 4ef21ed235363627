/-
  No cell of these rows narrows 'for every input' (looked for: loops, veiled, ifaces, maps, wideKeys, modest, calm, conditions, laid).
  DERIVED. THE GIVEN ROWS OF THIS SEAT. 3 by the template 'for every input the law returns true; each argument reads behind the call as it read before'; 0 by the template 'total and deterministic' (their statements: YtbjpopooijhpdaaTotals.lean).
  GIVEN WITH THE SEED: the statements are not yours to turn. If you find one false, say at which input.
  Laid BY PROGRAM, IN A SANDBOX (cutbox-rows.mjs): the forced cells as the released guide's own fill.sh prints them over the translation cf60d2abd2e035a8… (all of the seat's roots in one cut). By AI agents, Wed Nov 11 2026. No macro, syntax, notation, axiom, sorry.
-/
import Derived.Test.YtbjpopooijhpdaaChecked
import GoSem.Claim
import GoSem.ClaimJoined
import GoSem.ClaimMapViews
import Derived.JoinedTies
import Derived.KernelRfl
namespace Go.Proofs.Ytbjpopooijhpdaa
/- THE CELL 'sum', in the pinned program and in every row, IS THE sha256 OF THE DUMP (.gsa) THAT YtbjpopooijhpdaaProg.lean LOADS. Nothing in Lean hashes anything: it is a label: what it is worth is what the hold of that sum in a sandbox is worth. -/
noncomputable def Try.pinned : Pinned := { name := "ytbjpopooijhpdaa", sum := "cf60d2abd2e035a8403cc9f97b417325128a94ec39dbf9355de0f105776ae759", checked := Try.checked }
namespace Rows
def none {H : Type} : Left H := { results := [], args := [] }

/-- 'caravanlaw17.WatchRuns': WHATEVER THE INPUT: true; the input reads as it did. -/
def watchRunsSpec : ChangeSpec := { name := "watchRuns", fn := fun _ => fun
  | [d1, d2] => { results := [.lit (.bool true)], args := [d1, d2] }
  | _ => none }
def watchRunsRow : OpenClaim := { program := "ytbjpopooijhpdaa", sum := "cf60d2abd2e035a8403cc9f97b417325128a94ec39dbf9355de0f105776ae759", func := "caravan/caravanlaw17.WatchRuns", spec := "watchRuns", apart := false }
def WatchRunsSaid : Prop := watchRunsRow.holds Try.pinned (OpenSpec.ofChange watchRunsSpec)

/-- ITS FALSE NEIGHBOUR: 'it returns false'. Refute it at one input. -/
def watchRunsWrong : ChangeSpec := { name := "watchRuns", fn := fun _ => fun
  | [d1, d2] => { results := [.lit (.bool false)], args := [d1, d2] }
  | _ => none }
def WatchRunsWrongFalsely : Prop := watchRunsRow.holds Try.pinned (OpenSpec.ofChange watchRunsWrong)

/-- 'caravanlaw17.WatchAll': WHATEVER THE INPUT: true; the input reads as it did. -/
def watchAllSpec : ChangeSpec := { name := "watchAll", fn := fun _ => fun
  | [d1, d2, d3, d4, d5, d6, d7] => { results := [.lit (.bool true)], args := [d1, d2, d3, d4, d5, d6, d7] }
  | _ => none }
def watchAllRow : OpenClaim := { program := "ytbjpopooijhpdaa", sum := "cf60d2abd2e035a8403cc9f97b417325128a94ec39dbf9355de0f105776ae759", func := "caravan/caravanlaw17.WatchAll", spec := "watchAll", apart := false }
def WatchAllSaid : Prop := watchAllRow.holds Try.pinned (OpenSpec.ofChange watchAllSpec)

/-- ITS FALSE NEIGHBOUR: 'it returns false'. Refute it at one input. -/
def watchAllWrong : ChangeSpec := { name := "watchAll", fn := fun _ => fun
  | [d1, d2, d3, d4, d5, d6, d7] => { results := [.lit (.bool false)], args := [d1, d2, d3, d4, d5, d6, d7] }
  | _ => none }
def WatchAllWrongFalsely : Prop := watchAllRow.holds Try.pinned (OpenSpec.ofChange watchAllWrong)

/-- 'caravanlaw17.WatchMost': WHATEVER THE INPUT: true; the input reads as it did. -/
def watchMostSpec : ChangeSpec := { name := "watchMost", fn := fun _ => fun
  | [d1, d2, d3] => { results := [.lit (.bool true)], args := [d1, d2, d3] }
  | _ => none }
def watchMostRow : OpenClaim := { program := "ytbjpopooijhpdaa", sum := "cf60d2abd2e035a8403cc9f97b417325128a94ec39dbf9355de0f105776ae759", func := "caravan/caravanlaw17.WatchMost", spec := "watchMost", apart := false }
def WatchMostSaid : Prop := watchMostRow.holds Try.pinned (OpenSpec.ofChange watchMostSpec)

/-- ITS FALSE NEIGHBOUR: 'it returns false'. Refute it at one input. -/
def watchMostWrong : ChangeSpec := { name := "watchMost", fn := fun _ => fun
  | [d1, d2, d3] => { results := [.lit (.bool false)], args := [d1, d2, d3] }
  | _ => none }
def WatchMostWrongFalsely : Prop := watchMostRow.holds Try.pinned (OpenSpec.ofChange watchMostWrong)

/- THE SECOND FORM. 'bulk': how many values and letters a reading holds, each counted each time it is reached (what is shared counts as often as it is met; a slice's spare places count too). A statement '..UptoSaid' is the law's where the arguments, and the package variables that the reading takes, are together of bulk at most 1048576: NARROWER than '..Said'. Prove '..Said' where nothing that the law and all that it calls make is longer than what came in: it says more and counts as full. Else prove '..UptoSaid'. A law counts once. -/
mutual
def uptoBulk {H : Type} : DataW H → Nat
  | .lit (.string bytes) => bytes.length + 1
  | .lit _ => 1
  | .nil => 1
  | .ptr d => uptoBulk d + 1
  | .slice elems spare => uptoBulkAll elems + uptoBulkAll spare + 1
  | .agg parts => uptoBulkAll parts + 1
  | .iface _ d => uptoBulk d + 1
  | .map entries => uptoBulkEntries entries + 1
  | .held _ => 1
def uptoBulkAll {H : Type} : List (DataW H) → Nat
  | [] => 0
  | d :: r => uptoBulk d + uptoBulkAll r
def uptoBulkEntries {H : Type} : List (Lit × DataW H) → Nat
  | [] => 0
  | x :: r => uptoBulkEntry x + uptoBulkEntries r
def uptoBulkEntry {H : Type} : Lit × DataW H → Nat
  | (.string bytes, d) => bytes.length + uptoBulk d + 1
  | (_, d) => uptoBulk d + 1
 end
def uptoSmall : (H : Type) → List (DataW H) → Bool := fun _ ds => decide (uptoBulkAll ds ≤ 1048576)
def OpenSpec.upto (s : _root_.Go.ChangeSpec) : _root_.Go.OpenSpec := { _root_.Go.OpenSpec.ofChange s with cond := some uptoSmall }

/-- 'caravanlaw17.WatchRuns', WHERE WHAT IT READS IS OF BULK AT MOST 1048576: true; the input reads as it did. -/
def watchRunsUptoRow : OpenClaim := { program := "ytbjpopooijhpdaa", sum := "cf60d2abd2e035a8403cc9f97b417325128a94ec39dbf9355de0f105776ae759", func := "caravan/caravanlaw17.WatchRuns", spec := "watchRuns", apart := false, narrowed := true }
def WatchRunsUptoSaid : Prop := watchRunsUptoRow.holds Try.pinned (OpenSpec.upto watchRunsSpec)

/-- 'caravanlaw17.WatchAll', WHERE WHAT IT READS IS OF BULK AT MOST 1048576: true; the input reads as it did. -/
def watchAllUptoRow : OpenClaim := { program := "ytbjpopooijhpdaa", sum := "cf60d2abd2e035a8403cc9f97b417325128a94ec39dbf9355de0f105776ae759", func := "caravan/caravanlaw17.WatchAll", spec := "watchAll", apart := false, narrowed := true }
def WatchAllUptoSaid : Prop := watchAllUptoRow.holds Try.pinned (OpenSpec.upto watchAllSpec)

/-- 'caravanlaw17.WatchMost', WHERE WHAT IT READS IS OF BULK AT MOST 1048576: true; the input reads as it did. -/
def watchMostUptoRow : OpenClaim := { program := "ytbjpopooijhpdaa", sum := "cf60d2abd2e035a8403cc9f97b417325128a94ec39dbf9355de0f105776ae759", func := "caravan/caravanlaw17.WatchMost", spec := "watchMost", apart := false, narrowed := true }
def WatchMostUptoSaid : Prop := watchMostUptoRow.holds Try.pinned (OpenSpec.upto watchMostSpec)

end Rows
end Go.Proofs.Ytbjpopooijhpdaa

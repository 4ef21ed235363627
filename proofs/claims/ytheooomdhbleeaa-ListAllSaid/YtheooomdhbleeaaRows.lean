/-
  No cell of these rows narrows 'for every input' (looked for: loops, veiled, ifaces, maps, wideKeys, modest, calm, conditions, laid).
  DERIVED. THE GIVEN ROWS OF THIS SEAT. 5 by the template 'for every input the law returns true; each argument reads behind the call as it read before'; 0 by the template 'total and deterministic' (their statements: YtheooomdhbleeaaTotals.lean).
  GIVEN WITH THE SEED: the statements are not yours to turn. If you find one false, say at which input.
  Laid BY PROGRAM, IN A SANDBOX (cutbox-rows.mjs): the forced cells as the released guide's own fill.sh prints them over the translation 1b16b58863677f7c… (all of the seat's roots in one cut). By AI agents, Wed Nov 11 2026. No macro, syntax, notation, axiom, sorry.
-/
import Derived.Test.YtheooomdhbleeaaChecked
import GoSem.Claim
import GoSem.ClaimJoined
import GoSem.ClaimMapViews
import Derived.JoinedTies
import Derived.KernelRfl
namespace Go.Proofs.Ytheooomdhbleeaa
/- THE CELL 'sum', in the pinned program and in every row, IS THE sha256 OF THE DUMP (.gsa) THAT YtheooomdhbleeaaProg.lean LOADS. Nothing in Lean hashes anything: it is a label: what it is worth is what the hold of that sum in a sandbox is worth. -/
noncomputable def Try.pinned : Pinned := { name := "ytheooomdhbleeaa", sum := "1b16b58863677f7c9c6032a0aeb68bffd7a79b699840321bb74e522080719c7a", checked := Try.checked }
namespace Rows
def none {H : Type} : Left H := { results := [], args := [] }

/-- 'caravanlaw8.ListRems': WHATEVER THE INPUT: true; the input reads as it did. -/
def listRemsSpec : ChangeSpec := { name := "listRems", fn := fun _ => fun
  | [d1, d2, d3] => { results := [.lit (.bool true)], args := [d1, d2, d3] }
  | _ => none }
def listRemsRow : OpenClaim := { program := "ytheooomdhbleeaa", sum := "1b16b58863677f7c9c6032a0aeb68bffd7a79b699840321bb74e522080719c7a", func := "caravan/caravanlaw8.ListRems", spec := "listRems", unfollowed := true, recurses := true, apart := false }
def ListRemsSaid : Prop := listRemsRow.holds Try.pinned (OpenSpec.ofChange listRemsSpec)

/-- ITS FALSE NEIGHBOUR: 'it returns false'. Refute it at one input. -/
def listRemsWrong : ChangeSpec := { name := "listRems", fn := fun _ => fun
  | [d1, d2, d3] => { results := [.lit (.bool false)], args := [d1, d2, d3] }
  | _ => none }
def ListRemsWrongFalsely : Prop := listRemsRow.holds Try.pinned (OpenSpec.ofChange listRemsWrong)

/-- 'caravanlaw8.ListSubs': WHATEVER THE INPUT: true; the input reads as it did. -/
def listSubsSpec : ChangeSpec := { name := "listSubs", fn := fun _ => fun
  | [d1, d2, d3] => { results := [.lit (.bool true)], args := [d1, d2, d3] }
  | _ => none }
def listSubsRow : OpenClaim := { program := "ytheooomdhbleeaa", sum := "1b16b58863677f7c9c6032a0aeb68bffd7a79b699840321bb74e522080719c7a", func := "caravan/caravanlaw8.ListSubs", spec := "listSubs", unfollowed := true, recurses := true, apart := false }
def ListSubsSaid : Prop := listSubsRow.holds Try.pinned (OpenSpec.ofChange listSubsSpec)

/-- ITS FALSE NEIGHBOUR: 'it returns false'. Refute it at one input. -/
def listSubsWrong : ChangeSpec := { name := "listSubs", fn := fun _ => fun
  | [d1, d2, d3] => { results := [.lit (.bool false)], args := [d1, d2, d3] }
  | _ => none }
def ListSubsWrongFalsely : Prop := listSubsRow.holds Try.pinned (OpenSpec.ofChange listSubsWrong)

/-- 'caravanlaw8.ListSets': WHATEVER THE INPUT: true; the input reads as it did. -/
def listSetsSpec : ChangeSpec := { name := "listSets", fn := fun _ => fun
  | [d1, d2, d3] => { results := [.lit (.bool true)], args := [d1, d2, d3] }
  | _ => none }
def listSetsRow : OpenClaim := { program := "ytheooomdhbleeaa", sum := "1b16b58863677f7c9c6032a0aeb68bffd7a79b699840321bb74e522080719c7a", func := "caravan/caravanlaw8.ListSets", spec := "listSets", unfollowed := true, recurses := true, apart := false }
def ListSetsSaid : Prop := listSetsRow.holds Try.pinned (OpenSpec.ofChange listSetsSpec)

/-- ITS FALSE NEIGHBOUR: 'it returns false'. Refute it at one input. -/
def listSetsWrong : ChangeSpec := { name := "listSets", fn := fun _ => fun
  | [d1, d2, d3] => { results := [.lit (.bool false)], args := [d1, d2, d3] }
  | _ => none }
def ListSetsWrongFalsely : Prop := listSetsRow.holds Try.pinned (OpenSpec.ofChange listSetsWrong)

/-- 'caravanlaw8.ListEnds': WHATEVER THE INPUT: true; the input reads as it did. -/
def listEndsSpec : ChangeSpec := { name := "listEnds", fn := fun _ => fun
  | [d1, d2, d3] => { results := [.lit (.bool true)], args := [d1, d2, d3] }
  | _ => none }
def listEndsRow : OpenClaim := { program := "ytheooomdhbleeaa", sum := "1b16b58863677f7c9c6032a0aeb68bffd7a79b699840321bb74e522080719c7a", func := "caravan/caravanlaw8.ListEnds", spec := "listEnds", unfollowed := true, recurses := true, apart := false }
def ListEndsSaid : Prop := listEndsRow.holds Try.pinned (OpenSpec.ofChange listEndsSpec)

/-- ITS FALSE NEIGHBOUR: 'it returns false'. Refute it at one input. -/
def listEndsWrong : ChangeSpec := { name := "listEnds", fn := fun _ => fun
  | [d1, d2, d3] => { results := [.lit (.bool false)], args := [d1, d2, d3] }
  | _ => none }
def ListEndsWrongFalsely : Prop := listEndsRow.holds Try.pinned (OpenSpec.ofChange listEndsWrong)

/-- 'caravanlaw8.ListAll': WHATEVER THE INPUT: true; the input reads as it did. -/
def listAllSpec : ChangeSpec := { name := "listAll", fn := fun _ => fun
  | [d1, d2, d3, d4, d5, d6] => { results := [.lit (.bool true)], args := [d1, d2, d3, d4, d5, d6] }
  | _ => none }
def listAllRow : OpenClaim := { program := "ytheooomdhbleeaa", sum := "1b16b58863677f7c9c6032a0aeb68bffd7a79b699840321bb74e522080719c7a", func := "caravan/caravanlaw8.ListAll", spec := "listAll", unfollowed := true, recurses := true, apart := false }
def ListAllSaid : Prop := listAllRow.holds Try.pinned (OpenSpec.ofChange listAllSpec)

/-- ITS FALSE NEIGHBOUR: 'it returns false'. Refute it at one input. -/
def listAllWrong : ChangeSpec := { name := "listAll", fn := fun _ => fun
  | [d1, d2, d3, d4, d5, d6] => { results := [.lit (.bool false)], args := [d1, d2, d3, d4, d5, d6] }
  | _ => none }
def ListAllWrongFalsely : Prop := listAllRow.holds Try.pinned (OpenSpec.ofChange listAllWrong)

/- THE SECOND FORM. 'bulk': how many values and letters a reading holds, each counted each time it is reached (what is shared counts as often as it is met; a slice's spare places count too). A statement '..UptoSaid' is the law's where the arguments, and the package variables that the reading takes, are together of bulk at most 1048576: NARROWER than '..Said'. Prove '..Said' where nothing that the law and all that it calls make is longer than what came in: it says more and counts as full. Else prove '..UptoSaid'. A law counts once. -/
mutual
def uptoBulk {H : Type} : DataW H → Nat
  | .lit (.string bytes) => bytes.length + 1
  | .lit _ => 1
  | .nil => 1
  | .ptr d => uptoBulk d + 1
  | .slice elems spare => uptoBulkAll elems + uptoBulkAll spare + 1
  | .agg parts => uptoBulkAll parts + 1
  | .iface _ d => uptoBulk d + 1
  | .map entries => uptoBulkEntries entries + 1
  | .held _ => 1
def uptoBulkAll {H : Type} : List (DataW H) → Nat
  | [] => 0
  | d :: r => uptoBulk d + uptoBulkAll r
def uptoBulkEntries {H : Type} : List (Lit × DataW H) → Nat
  | [] => 0
  | x :: r => uptoBulkEntry x + uptoBulkEntries r
def uptoBulkEntry {H : Type} : Lit × DataW H → Nat
  | (.string bytes, d) => bytes.length + uptoBulk d + 1
  | (_, d) => uptoBulk d + 1
 end
def uptoSmall : (H : Type) → List (DataW H) → Bool := fun _ ds => decide (uptoBulkAll ds ≤ 1048576)
def OpenSpec.upto (s : _root_.Go.ChangeSpec) : _root_.Go.OpenSpec := { _root_.Go.OpenSpec.ofChange s with cond := some uptoSmall }

/-- 'caravanlaw8.ListRems', WHERE WHAT IT READS IS OF BULK AT MOST 1048576: true; the input reads as it did. -/
def listRemsUptoRow : OpenClaim := { program := "ytheooomdhbleeaa", sum := "1b16b58863677f7c9c6032a0aeb68bffd7a79b699840321bb74e522080719c7a", func := "caravan/caravanlaw8.ListRems", spec := "listRems", unfollowed := true, recurses := true, apart := false, narrowed := true }
def ListRemsUptoSaid : Prop := listRemsUptoRow.holds Try.pinned (OpenSpec.upto listRemsSpec)

/-- 'caravanlaw8.ListSubs', WHERE WHAT IT READS IS OF BULK AT MOST 1048576: true; the input reads as it did. -/
def listSubsUptoRow : OpenClaim := { program := "ytheooomdhbleeaa", sum := "1b16b58863677f7c9c6032a0aeb68bffd7a79b699840321bb74e522080719c7a", func := "caravan/caravanlaw8.ListSubs", spec := "listSubs", unfollowed := true, recurses := true, apart := false, narrowed := true }
def ListSubsUptoSaid : Prop := listSubsUptoRow.holds Try.pinned (OpenSpec.upto listSubsSpec)

/-- 'caravanlaw8.ListSets', WHERE WHAT IT READS IS OF BULK AT MOST 1048576: true; the input reads as it did. -/
def listSetsUptoRow : OpenClaim := { program := "ytheooomdhbleeaa", sum := "1b16b58863677f7c9c6032a0aeb68bffd7a79b699840321bb74e522080719c7a", func := "caravan/caravanlaw8.ListSets", spec := "listSets", unfollowed := true, recurses := true, apart := false, narrowed := true }
def ListSetsUptoSaid : Prop := listSetsUptoRow.holds Try.pinned (OpenSpec.upto listSetsSpec)

/-- 'caravanlaw8.ListEnds', WHERE WHAT IT READS IS OF BULK AT MOST 1048576: true; the input reads as it did. -/
def listEndsUptoRow : OpenClaim := { program := "ytheooomdhbleeaa", sum := "1b16b58863677f7c9c6032a0aeb68bffd7a79b699840321bb74e522080719c7a", func := "caravan/caravanlaw8.ListEnds", spec := "listEnds", unfollowed := true, recurses := true, apart := false, narrowed := true }
def ListEndsUptoSaid : Prop := listEndsUptoRow.holds Try.pinned (OpenSpec.upto listEndsSpec)

/-- 'caravanlaw8.ListAll', WHERE WHAT IT READS IS OF BULK AT MOST 1048576: true; the input reads as it did. -/
def listAllUptoRow : OpenClaim := { program := "ytheooomdhbleeaa", sum := "1b16b58863677f7c9c6032a0aeb68bffd7a79b699840321bb74e522080719c7a", func := "caravan/caravanlaw8.ListAll", spec := "listAll", unfollowed := true, recurses := true, apart := false, narrowed := true }
def ListAllUptoSaid : Prop := listAllUptoRow.holds Try.pinned (OpenSpec.upto listAllSpec)

end Rows
end Go.Proofs.Ytheooomdhbleeaa

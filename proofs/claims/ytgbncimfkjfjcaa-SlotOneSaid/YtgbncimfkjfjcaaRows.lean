/-
  No cell of these rows narrows 'for every input' (looked for: loops, veiled, ifaces, maps, wideKeys, modest, calm, conditions, laid).
  DERIVED. THE GIVEN ROWS OF THIS SEAT. 6 by the template 'for every input the law returns true; each argument reads behind the call as it read before'; 0 by the template 'total and deterministic' (their statements: YtgbncimfkjfjcaaTotals.lean).
  GIVEN WITH THE SEED: the statements are not yours to turn. If you find one false, say at which input.
  Laid BY PROGRAM, IN A SANDBOX (cutbox-rows.mjs): the forced cells as the released guide's own fill.sh prints them over the translation 51d9c82971cc202a… (all of the seat's roots in one cut). By AI agents, Wed Nov 11 2026. No macro, syntax, notation, axiom, sorry.
-/
import Derived.Test.YtgbncimfkjfjcaaChecked
import GoSem.Claim
import GoSem.ClaimJoined
import GoSem.ClaimMapViews
import Derived.JoinedTies
import Derived.KernelRfl
namespace Go.Proofs.Ytgbncimfkjfjcaa
/- THE CELL 'sum', in the pinned program and in every row, IS THE sha256 OF THE DUMP (.gsa) THAT YtgbncimfkjfjcaaProg.lean LOADS. Nothing in Lean hashes anything: it is a label: what it is worth is what the hold of that sum in a sandbox is worth. -/
noncomputable def Try.pinned : Pinned := { name := "ytgbncimfkjfjcaa", sum := "51d9c82971cc202a44821e9b2abc115ce5bcc374024fc28d55bc0161cf01aa8d", checked := Try.checked }
namespace Rows
def none {H : Type} : Left H := { results := [], args := [] }

/-- 'caravanlaw1.SlotTurned': WHATEVER THE INPUT: true; the input reads as it did. -/
def slotTurnedSpec : ChangeSpec := { name := "slotTurned", fn := fun _ => fun
  | [d1, d2, d3] => { results := [.lit (.bool true)], args := [d1, d2, d3] }
  | _ => none }
def slotTurnedRow : OpenClaim := { program := "ytgbncimfkjfjcaa", sum := "51d9c82971cc202a44821e9b2abc115ce5bcc374024fc28d55bc0161cf01aa8d", func := "caravan/caravanlaw1.SlotTurned", spec := "slotTurned", apart := false }
def SlotTurnedSaid : Prop := slotTurnedRow.holds Try.pinned (OpenSpec.ofChange slotTurnedSpec)

/-- ITS FALSE NEIGHBOUR: 'it returns false'. Refute it at one input. -/
def slotTurnedWrong : ChangeSpec := { name := "slotTurned", fn := fun _ => fun
  | [d1, d2, d3] => { results := [.lit (.bool false)], args := [d1, d2, d3] }
  | _ => none }
def SlotTurnedWrongFalsely : Prop := slotTurnedRow.holds Try.pinned (OpenSpec.ofChange slotTurnedWrong)

/-- 'caravanlaw1.SlotAll': WHATEVER THE INPUT: true; the input reads as it did. -/
def slotAllSpec : ChangeSpec := { name := "slotAll", fn := fun _ => fun
  | [d] => { results := [.lit (.bool true)], args := [d] }
  | _ => none }
def slotAllRow : OpenClaim := { program := "ytgbncimfkjfjcaa", sum := "51d9c82971cc202a44821e9b2abc115ce5bcc374024fc28d55bc0161cf01aa8d", func := "caravan/caravanlaw1.SlotAll", spec := "slotAll", inPlace := ["internal/bytealg.IndexByteString", "internal/bytealg.IndexString"], named := ["internal/bytealg.MaxLen"], apart := false }
def SlotAllSaid : Prop := slotAllRow.holds Try.pinned (OpenSpec.ofChange slotAllSpec)

/-- ITS FALSE NEIGHBOUR: 'it returns false'. Refute it at one input. -/
def slotAllWrong : ChangeSpec := { name := "slotAll", fn := fun _ => fun
  | [d] => { results := [.lit (.bool false)], args := [d] }
  | _ => none }
def SlotAllWrongFalsely : Prop := slotAllRow.holds Try.pinned (OpenSpec.ofChange slotAllWrong)

/-- 'caravanlaw1.SlotKnown': WHATEVER THE INPUT: true; the input reads as it did. -/
def slotKnownSpec : ChangeSpec := { name := "slotKnown", fn := fun _ => fun
  | [d] => { results := [.lit (.bool true)], args := [d] }
  | _ => none }
def slotKnownRow : OpenClaim := { program := "ytgbncimfkjfjcaa", sum := "51d9c82971cc202a44821e9b2abc115ce5bcc374024fc28d55bc0161cf01aa8d", func := "caravan/caravanlaw1.SlotKnown", spec := "slotKnown", inPlace := ["internal/bytealg.IndexByteString", "internal/bytealg.IndexString"], named := ["internal/bytealg.MaxLen"], apart := false }
def SlotKnownSaid : Prop := slotKnownRow.holds Try.pinned (OpenSpec.ofChange slotKnownSpec)

/-- ITS FALSE NEIGHBOUR: 'it returns false'. Refute it at one input. -/
def slotKnownWrong : ChangeSpec := { name := "slotKnown", fn := fun _ => fun
  | [d] => { results := [.lit (.bool false)], args := [d] }
  | _ => none }
def SlotKnownWrongFalsely : Prop := slotKnownRow.holds Try.pinned (OpenSpec.ofChange slotKnownWrong)

/-- 'caravanlaw1.SlotOne': WHATEVER THE INPUT: true; the input reads as it did. -/
def slotOneSpec : ChangeSpec := { name := "slotOne", fn := fun _ => fun
  | [d] => { results := [.lit (.bool true)], args := [d] }
  | _ => none }
def slotOneRow : OpenClaim := { program := "ytgbncimfkjfjcaa", sum := "51d9c82971cc202a44821e9b2abc115ce5bcc374024fc28d55bc0161cf01aa8d", func := "caravan/caravanlaw1.SlotOne", spec := "slotOne", inPlace := ["internal/bytealg.IndexByteString", "internal/bytealg.IndexString"], unfollowed := true, recurses := true, named := ["internal/bytealg.MaxLen"], apart := false }
def SlotOneSaid : Prop := slotOneRow.holds Try.pinned (OpenSpec.ofChange slotOneSpec)

/-- ITS FALSE NEIGHBOUR: 'it returns false'. Refute it at one input. -/
def slotOneWrong : ChangeSpec := { name := "slotOne", fn := fun _ => fun
  | [d] => { results := [.lit (.bool false)], args := [d] }
  | _ => none }
def SlotOneWrongFalsely : Prop := slotOneRow.holds Try.pinned (OpenSpec.ofChange slotOneWrong)

/-- 'caravanlaw1.SlotTags': WHATEVER THE INPUT: true; the input reads as it did. -/
def slotTagsSpec : ChangeSpec := { name := "slotTags", fn := fun _ => fun
  | [d1, d2, d3] => { results := [.lit (.bool true)], args := [d1, d2, d3] }
  | _ => none }
def slotTagsRow : OpenClaim := { program := "ytgbncimfkjfjcaa", sum := "51d9c82971cc202a44821e9b2abc115ce5bcc374024fc28d55bc0161cf01aa8d", func := "caravan/caravanlaw1.SlotTags", spec := "slotTags", inPlace := ["internal/bytealg.IndexByteString", "internal/bytealg.IndexString"], unfollowed := true, recurses := true, named := ["internal/bytealg.MaxLen"], apart := false }
def SlotTagsSaid : Prop := slotTagsRow.holds Try.pinned (OpenSpec.ofChange slotTagsSpec)

/-- ITS FALSE NEIGHBOUR: 'it returns false'. Refute it at one input. -/
def slotTagsWrong : ChangeSpec := { name := "slotTags", fn := fun _ => fun
  | [d1, d2, d3] => { results := [.lit (.bool false)], args := [d1, d2, d3] }
  | _ => none }
def SlotTagsWrongFalsely : Prop := slotTagsRow.holds Try.pinned (OpenSpec.ofChange slotTagsWrong)

/-- 'caravanlaw1.SlotMany': WHATEVER THE INPUT: true; the input reads as it did. -/
def slotManySpec : ChangeSpec := { name := "slotMany", fn := fun _ => fun
  | [d1, d2, d3, d4] => { results := [.lit (.bool true)], args := [d1, d2, d3, d4] }
  | _ => none }
def slotManyRow : OpenClaim := { program := "ytgbncimfkjfjcaa", sum := "51d9c82971cc202a44821e9b2abc115ce5bcc374024fc28d55bc0161cf01aa8d", func := "caravan/caravanlaw1.SlotMany", spec := "slotMany", inPlace := ["internal/bytealg.IndexByteString", "internal/bytealg.IndexString"], unfollowed := true, recurses := true, named := ["internal/bytealg.MaxLen"], apart := false }
def SlotManySaid : Prop := slotManyRow.holds Try.pinned (OpenSpec.ofChange slotManySpec)

/-- ITS FALSE NEIGHBOUR: 'it returns false'. Refute it at one input. -/
def slotManyWrong : ChangeSpec := { name := "slotMany", fn := fun _ => fun
  | [d1, d2, d3, d4] => { results := [.lit (.bool false)], args := [d1, d2, d3, d4] }
  | _ => none }
def SlotManyWrongFalsely : Prop := slotManyRow.holds Try.pinned (OpenSpec.ofChange slotManyWrong)

/- THE SECOND FORM. 'bulk': how many values and letters a reading holds, each counted each time it is reached (what is shared counts as often as it is met; a slice's spare places count too). A statement '..UptoSaid' is the law's where the arguments, and the package variables that the reading takes, are together of bulk at most 1048576: NARROWER than '..Said'. Prove '..Said' where nothing that the law and all that it calls make is longer than what came in: it says more and counts as full. Else prove '..UptoSaid'. A law counts once. -/
mutual
def uptoBulk {H : Type} : DataW H → Nat
  | .lit (.string bytes) => bytes.length + 1
  | .lit _ => 1
  | .nil => 1
  | .ptr d => uptoBulk d + 1
  | .slice elems spare => uptoBulkAll elems + uptoBulkAll spare + 1
  | .agg parts => uptoBulkAll parts + 1
  | .iface _ d => uptoBulk d + 1
  | .map entries => uptoBulkEntries entries + 1
  | .held _ => 1
def uptoBulkAll {H : Type} : List (DataW H) → Nat
  | [] => 0
  | d :: r => uptoBulk d + uptoBulkAll r
def uptoBulkEntries {H : Type} : List (Lit × DataW H) → Nat
  | [] => 0
  | x :: r => uptoBulkEntry x + uptoBulkEntries r
def uptoBulkEntry {H : Type} : Lit × DataW H → Nat
  | (.string bytes, d) => bytes.length + uptoBulk d + 1
  | (_, d) => uptoBulk d + 1
 end
def uptoSmall : (H : Type) → List (DataW H) → Bool := fun _ ds => decide (uptoBulkAll ds ≤ 1048576)
def OpenSpec.upto (s : _root_.Go.ChangeSpec) : _root_.Go.OpenSpec := { _root_.Go.OpenSpec.ofChange s with cond := some uptoSmall }

/-- 'caravanlaw1.SlotTurned', WHERE WHAT IT READS IS OF BULK AT MOST 1048576: true; the input reads as it did. -/
def slotTurnedUptoRow : OpenClaim := { program := "ytgbncimfkjfjcaa", sum := "51d9c82971cc202a44821e9b2abc115ce5bcc374024fc28d55bc0161cf01aa8d", func := "caravan/caravanlaw1.SlotTurned", spec := "slotTurned", apart := false, narrowed := true }
def SlotTurnedUptoSaid : Prop := slotTurnedUptoRow.holds Try.pinned (OpenSpec.upto slotTurnedSpec)

/-- 'caravanlaw1.SlotAll', WHERE WHAT IT READS IS OF BULK AT MOST 1048576: true; the input reads as it did. -/
def slotAllUptoRow : OpenClaim := { program := "ytgbncimfkjfjcaa", sum := "51d9c82971cc202a44821e9b2abc115ce5bcc374024fc28d55bc0161cf01aa8d", func := "caravan/caravanlaw1.SlotAll", spec := "slotAll", inPlace := ["internal/bytealg.IndexByteString", "internal/bytealg.IndexString"], named := ["internal/bytealg.MaxLen"], apart := false, narrowed := true }
def SlotAllUptoSaid : Prop := slotAllUptoRow.holds Try.pinned (OpenSpec.upto slotAllSpec)

/-- 'caravanlaw1.SlotKnown', WHERE WHAT IT READS IS OF BULK AT MOST 1048576: true; the input reads as it did. -/
def slotKnownUptoRow : OpenClaim := { program := "ytgbncimfkjfjcaa", sum := "51d9c82971cc202a44821e9b2abc115ce5bcc374024fc28d55bc0161cf01aa8d", func := "caravan/caravanlaw1.SlotKnown", spec := "slotKnown", inPlace := ["internal/bytealg.IndexByteString", "internal/bytealg.IndexString"], named := ["internal/bytealg.MaxLen"], apart := false, narrowed := true }
def SlotKnownUptoSaid : Prop := slotKnownUptoRow.holds Try.pinned (OpenSpec.upto slotKnownSpec)

/-- 'caravanlaw1.SlotOne', WHERE WHAT IT READS IS OF BULK AT MOST 1048576: true; the input reads as it did. -/
def slotOneUptoRow : OpenClaim := { program := "ytgbncimfkjfjcaa", sum := "51d9c82971cc202a44821e9b2abc115ce5bcc374024fc28d55bc0161cf01aa8d", func := "caravan/caravanlaw1.SlotOne", spec := "slotOne", inPlace := ["internal/bytealg.IndexByteString", "internal/bytealg.IndexString"], unfollowed := true, recurses := true, named := ["internal/bytealg.MaxLen"], apart := false, narrowed := true }
def SlotOneUptoSaid : Prop := slotOneUptoRow.holds Try.pinned (OpenSpec.upto slotOneSpec)

/-- 'caravanlaw1.SlotTags', WHERE WHAT IT READS IS OF BULK AT MOST 1048576: true; the input reads as it did. -/
def slotTagsUptoRow : OpenClaim := { program := "ytgbncimfkjfjcaa", sum := "51d9c82971cc202a44821e9b2abc115ce5bcc374024fc28d55bc0161cf01aa8d", func := "caravan/caravanlaw1.SlotTags", spec := "slotTags", inPlace := ["internal/bytealg.IndexByteString", "internal/bytealg.IndexString"], unfollowed := true, recurses := true, named := ["internal/bytealg.MaxLen"], apart := false, narrowed := true }
def SlotTagsUptoSaid : Prop := slotTagsUptoRow.holds Try.pinned (OpenSpec.upto slotTagsSpec)

/-- 'caravanlaw1.SlotMany', WHERE WHAT IT READS IS OF BULK AT MOST 1048576: true; the input reads as it did. -/
def slotManyUptoRow : OpenClaim := { program := "ytgbncimfkjfjcaa", sum := "51d9c82971cc202a44821e9b2abc115ce5bcc374024fc28d55bc0161cf01aa8d", func := "caravan/caravanlaw1.SlotMany", spec := "slotMany", inPlace := ["internal/bytealg.IndexByteString", "internal/bytealg.IndexString"], unfollowed := true, recurses := true, named := ["internal/bytealg.MaxLen"], apart := false, narrowed := true }
def SlotManyUptoSaid : Prop := slotManyUptoRow.holds Try.pinned (OpenSpec.upto slotManySpec)

end Rows
end Go.Proofs.Ytgbncimfkjfjcaa

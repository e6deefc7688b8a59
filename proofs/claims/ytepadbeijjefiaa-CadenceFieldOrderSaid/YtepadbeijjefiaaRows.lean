/-
  No cell of these rows narrows 'for every input' (looked for: loops, veiled, ifaces, maps, wideKeys, modest, calm, conditions, laid).
  DERIVED. THE GIVEN ROWS OF THIS SEAT. 11 by the template 'for every input the law returns true; each argument reads behind the call as it read before'; 0 by the template 'total and deterministic' (their statements: YtepadbeijjefiaaTotals.lean).
  GIVEN WITH THE SEED: the statements are not yours to turn. If you find one false, say at which input.
  Laid BY PROGRAM, IN A SANDBOX (cutbox-rows.mjs): the forced cells as the released guide's own fill.sh prints them over the translation 81e97c120a8b7ca0… (all of the seat's roots in one cut). By AI agents, Wed Nov 11 2026. No macro, syntax, notation, axiom, sorry.
-/
import Derived.Test.YtepadbeijjefiaaChecked
import GoSem.Claim
import GoSem.ClaimJoined
import GoSem.ClaimMapViews
import Derived.JoinedTies
import Derived.KernelRfl
namespace Go.Proofs.Ytepadbeijjefiaa
/- THE CELL 'sum', in the pinned program and in every row, IS THE sha256 OF THE DUMP (.gsa) THAT YtepadbeijjefiaaProg.lean LOADS. Nothing in Lean hashes anything: it is a label: what it is worth is what the hold of that sum in a sandbox is worth. -/
noncomputable def Try.pinned : Pinned := { name := "ytepadbeijjefiaa", sum := "81e97c120a8b7ca0008f6d6a67334dbd47c038df5e28b2955e7ea12083debba2", checked := Try.checked }
namespace Rows
def none {H : Type} : Left H := { results := [], args := [] }

/-- 'cutroomlaw20.CadenceRates': WHATEVER THE INPUT: true; the input reads as it did. -/
def cadenceRatesSpec : ChangeSpec := { name := "cadenceRates", fn := fun _ => fun
  | [d] => { results := [.lit (.bool true)], args := [d] }
  | _ => none }
def cadenceRatesRow : OpenClaim := { program := "ytepadbeijjefiaa", sum := "81e97c120a8b7ca0008f6d6a67334dbd47c038df5e28b2955e7ea12083debba2", func := "cutroom/cutroomlaw20.CadenceRates", spec := "cadenceRates", inPlace := ["math/bits.Add64", "math/bits.Sub64"], unfollowed := true, recurses := true, named := ["math/bits.divideError", "math/bits.overflowError"], apart := false }
def CadenceRatesSaid : Prop := cadenceRatesRow.holds Try.pinned (OpenSpec.ofChange cadenceRatesSpec)

/-- ITS FALSE NEIGHBOUR: 'it returns false'. Refute it at one input. -/
def cadenceRatesWrong : ChangeSpec := { name := "cadenceRates", fn := fun _ => fun
  | [d] => { results := [.lit (.bool false)], args := [d] }
  | _ => none }
def CadenceRatesWrongFalsely : Prop := cadenceRatesRow.holds Try.pinned (OpenSpec.ofChange cadenceRatesWrong)

/-- 'cutroomlaw20.CadenceFrames': WHATEVER THE INPUT: true; the input reads as it did. -/
def cadenceFramesSpec : ChangeSpec := { name := "cadenceFrames", fn := fun _ => fun
  | [d1, d2, d3] => { results := [.lit (.bool true)], args := [d1, d2, d3] }
  | _ => none }
def cadenceFramesRow : OpenClaim := { program := "ytepadbeijjefiaa", sum := "81e97c120a8b7ca0008f6d6a67334dbd47c038df5e28b2955e7ea12083debba2", func := "cutroom/cutroomlaw20.CadenceFrames", spec := "cadenceFrames", inPlace := ["math/bits.Add64", "math/bits.Sub64"], unfollowed := true, recurses := true, named := ["math/bits.divideError", "math/bits.overflowError"], apart := false }
def CadenceFramesSaid : Prop := cadenceFramesRow.holds Try.pinned (OpenSpec.ofChange cadenceFramesSpec)

/-- ITS FALSE NEIGHBOUR: 'it returns false'. Refute it at one input. -/
def cadenceFramesWrong : ChangeSpec := { name := "cadenceFrames", fn := fun _ => fun
  | [d1, d2, d3] => { results := [.lit (.bool false)], args := [d1, d2, d3] }
  | _ => none }
def CadenceFramesWrongFalsely : Prop := cadenceFramesRow.holds Try.pinned (OpenSpec.ofChange cadenceFramesWrong)

/-- 'cutroomlaw20.CadenceShown': WHATEVER THE INPUT: true; the input reads as it did. -/
def cadenceShownSpec : ChangeSpec := { name := "cadenceShown", fn := fun _ => fun
  | [d1, d2, d3] => { results := [.lit (.bool true)], args := [d1, d2, d3] }
  | _ => none }
def cadenceShownRow : OpenClaim := { program := "ytepadbeijjefiaa", sum := "81e97c120a8b7ca0008f6d6a67334dbd47c038df5e28b2955e7ea12083debba2", func := "cutroom/cutroomlaw20.CadenceShown", spec := "cadenceShown", inPlace := ["math/bits.Add64", "math/bits.Sub64"], unfollowed := true, recurses := true, named := ["math/bits.divideError", "math/bits.overflowError"], apart := false }
def CadenceShownSaid : Prop := cadenceShownRow.holds Try.pinned (OpenSpec.ofChange cadenceShownSpec)

/-- ITS FALSE NEIGHBOUR: 'it returns false'. Refute it at one input. -/
def cadenceShownWrong : ChangeSpec := { name := "cadenceShown", fn := fun _ => fun
  | [d1, d2, d3] => { results := [.lit (.bool false)], args := [d1, d2, d3] }
  | _ => none }
def CadenceShownWrongFalsely : Prop := cadenceShownRow.holds Try.pinned (OpenSpec.ofChange cadenceShownWrong)

/-- 'cutroomlaw20.CadenceSamples': WHATEVER THE INPUT: true; the input reads as it did. -/
def cadenceSamplesSpec : ChangeSpec := { name := "cadenceSamples", fn := fun _ => fun
  | [d1, d2] => { results := [.lit (.bool true)], args := [d1, d2] }
  | _ => none }
def cadenceSamplesRow : OpenClaim := { program := "ytepadbeijjefiaa", sum := "81e97c120a8b7ca0008f6d6a67334dbd47c038df5e28b2955e7ea12083debba2", func := "cutroom/cutroomlaw20.CadenceSamples", spec := "cadenceSamples", inPlace := ["math/bits.Add64", "math/bits.Sub64"], unfollowed := true, recurses := true, named := ["math/bits.divideError", "math/bits.overflowError"], apart := false }
def CadenceSamplesSaid : Prop := cadenceSamplesRow.holds Try.pinned (OpenSpec.ofChange cadenceSamplesSpec)

/-- ITS FALSE NEIGHBOUR: 'it returns false'. Refute it at one input. -/
def cadenceSamplesWrong : ChangeSpec := { name := "cadenceSamples", fn := fun _ => fun
  | [d1, d2] => { results := [.lit (.bool false)], args := [d1, d2] }
  | _ => none }
def CadenceSamplesWrongFalsely : Prop := cadenceSamplesRow.holds Try.pinned (OpenSpec.ofChange cadenceSamplesWrong)

/-- 'cutroomlaw20.CadenceHalf': WHATEVER THE INPUT: true; the input reads as it did. -/
def cadenceHalfSpec : ChangeSpec := { name := "cadenceHalf", fn := fun _ => fun
  | [d1, d2] => { results := [.lit (.bool true)], args := [d1, d2] }
  | _ => none }
def cadenceHalfRow : OpenClaim := { program := "ytepadbeijjefiaa", sum := "81e97c120a8b7ca0008f6d6a67334dbd47c038df5e28b2955e7ea12083debba2", func := "cutroom/cutroomlaw20.CadenceHalf", spec := "cadenceHalf", inPlace := ["math/bits.Add64", "math/bits.Sub64"], unfollowed := true, recurses := true, named := ["math/bits.divideError", "math/bits.overflowError"], apart := false }
def CadenceHalfSaid : Prop := cadenceHalfRow.holds Try.pinned (OpenSpec.ofChange cadenceHalfSpec)

/-- ITS FALSE NEIGHBOUR: 'it returns false'. Refute it at one input. -/
def cadenceHalfWrong : ChangeSpec := { name := "cadenceHalf", fn := fun _ => fun
  | [d1, d2] => { results := [.lit (.bool false)], args := [d1, d2] }
  | _ => none }
def CadenceHalfWrongFalsely : Prop := cadenceHalfRow.holds Try.pinned (OpenSpec.ofChange cadenceHalfWrong)

/-- 'cutroomlaw20.CadenceOwners': WHATEVER THE INPUT: true; the input reads as it did. -/
def cadenceOwnersSpec : ChangeSpec := { name := "cadenceOwners", fn := fun _ => fun
  | [d1, d2] => { results := [.lit (.bool true)], args := [d1, d2] }
  | _ => none }
def cadenceOwnersRow : OpenClaim := { program := "ytepadbeijjefiaa", sum := "81e97c120a8b7ca0008f6d6a67334dbd47c038df5e28b2955e7ea12083debba2", func := "cutroom/cutroomlaw20.CadenceOwners", spec := "cadenceOwners", inPlace := ["math/bits.Add64", "math/bits.Sub64"], unfollowed := true, recurses := true, named := ["math/bits.divideError", "math/bits.overflowError"], apart := false }
def CadenceOwnersSaid : Prop := cadenceOwnersRow.holds Try.pinned (OpenSpec.ofChange cadenceOwnersSpec)

/-- ITS FALSE NEIGHBOUR: 'it returns false'. Refute it at one input. -/
def cadenceOwnersWrong : ChangeSpec := { name := "cadenceOwners", fn := fun _ => fun
  | [d1, d2] => { results := [.lit (.bool false)], args := [d1, d2] }
  | _ => none }
def CadenceOwnersWrongFalsely : Prop := cadenceOwnersRow.holds Try.pinned (OpenSpec.ofChange cadenceOwnersWrong)

/-- 'cutroomlaw20.CadenceOwns': WHATEVER THE INPUT: true; the input reads as it did. -/
def cadenceOwnsSpec : ChangeSpec := { name := "cadenceOwns", fn := fun _ => fun
  | [d1, d2] => { results := [.lit (.bool true)], args := [d1, d2] }
  | _ => none }
def cadenceOwnsRow : OpenClaim := { program := "ytepadbeijjefiaa", sum := "81e97c120a8b7ca0008f6d6a67334dbd47c038df5e28b2955e7ea12083debba2", func := "cutroom/cutroomlaw20.CadenceOwns", spec := "cadenceOwns", inPlace := ["math/bits.Add64", "math/bits.Sub64"], unfollowed := true, recurses := true, named := ["math/bits.divideError", "math/bits.overflowError"], apart := false }
def CadenceOwnsSaid : Prop := cadenceOwnsRow.holds Try.pinned (OpenSpec.ofChange cadenceOwnsSpec)

/-- ITS FALSE NEIGHBOUR: 'it returns false'. Refute it at one input. -/
def cadenceOwnsWrong : ChangeSpec := { name := "cadenceOwns", fn := fun _ => fun
  | [d1, d2] => { results := [.lit (.bool false)], args := [d1, d2] }
  | _ => none }
def CadenceOwnsWrongFalsely : Prop := cadenceOwnsRow.holds Try.pinned (OpenSpec.ofChange cadenceOwnsWrong)

/-- 'cutroomlaw20.CadenceFields': WHATEVER THE INPUT: true; the input reads as it did. -/
def cadenceFieldsSpec : ChangeSpec := { name := "cadenceFields", fn := fun _ => fun
  | [d1, d2, d3] => { results := [.lit (.bool true)], args := [d1, d2, d3] }
  | _ => none }
def cadenceFieldsRow : OpenClaim := { program := "ytepadbeijjefiaa", sum := "81e97c120a8b7ca0008f6d6a67334dbd47c038df5e28b2955e7ea12083debba2", func := "cutroom/cutroomlaw20.CadenceFields", spec := "cadenceFields", inPlace := ["math/bits.Add64", "math/bits.Sub64"], unfollowed := true, recurses := true, named := ["math/bits.divideError", "math/bits.overflowError"], apart := false }
def CadenceFieldsSaid : Prop := cadenceFieldsRow.holds Try.pinned (OpenSpec.ofChange cadenceFieldsSpec)

/-- ITS FALSE NEIGHBOUR: 'it returns false'. Refute it at one input. -/
def cadenceFieldsWrong : ChangeSpec := { name := "cadenceFields", fn := fun _ => fun
  | [d1, d2, d3] => { results := [.lit (.bool false)], args := [d1, d2, d3] }
  | _ => none }
def CadenceFieldsWrongFalsely : Prop := cadenceFieldsRow.holds Try.pinned (OpenSpec.ofChange cadenceFieldsWrong)

/-- 'cutroomlaw20.CadencePulldown': WHATEVER THE INPUT: true; the input reads as it did. -/
def cadencePulldownSpec : ChangeSpec := { name := "cadencePulldown", fn := fun _ => fun
  | [d] => { results := [.lit (.bool true)], args := [d] }
  | _ => none }
def cadencePulldownRow : OpenClaim := { program := "ytepadbeijjefiaa", sum := "81e97c120a8b7ca0008f6d6a67334dbd47c038df5e28b2955e7ea12083debba2", func := "cutroom/cutroomlaw20.CadencePulldown", spec := "cadencePulldown", inPlace := ["math/bits.Add64", "math/bits.Sub64"], unfollowed := true, recurses := true, named := ["math/bits.divideError", "math/bits.overflowError"], apart := false }
def CadencePulldownSaid : Prop := cadencePulldownRow.holds Try.pinned (OpenSpec.ofChange cadencePulldownSpec)

/-- ITS FALSE NEIGHBOUR: 'it returns false'. Refute it at one input. -/
def cadencePulldownWrong : ChangeSpec := { name := "cadencePulldown", fn := fun _ => fun
  | [d] => { results := [.lit (.bool false)], args := [d] }
  | _ => none }
def CadencePulldownWrongFalsely : Prop := cadencePulldownRow.holds Try.pinned (OpenSpec.ofChange cadencePulldownWrong)

/-- 'cutroomlaw20.CadenceFieldOrder': WHATEVER THE INPUT: true; the input reads as it did. -/
def cadenceFieldOrderSpec : ChangeSpec := { name := "cadenceFieldOrder", fn := fun _ => fun
  | [d1, d2, d3] => { results := [.lit (.bool true)], args := [d1, d2, d3] }
  | _ => none }
def cadenceFieldOrderRow : OpenClaim := { program := "ytepadbeijjefiaa", sum := "81e97c120a8b7ca0008f6d6a67334dbd47c038df5e28b2955e7ea12083debba2", func := "cutroom/cutroomlaw20.CadenceFieldOrder", spec := "cadenceFieldOrder", inPlace := ["math/bits.Add64", "math/bits.Sub64"], unfollowed := true, recurses := true, named := ["math/bits.divideError", "math/bits.overflowError"], apart := false }
def CadenceFieldOrderSaid : Prop := cadenceFieldOrderRow.holds Try.pinned (OpenSpec.ofChange cadenceFieldOrderSpec)

/-- ITS FALSE NEIGHBOUR: 'it returns false'. Refute it at one input. -/
def cadenceFieldOrderWrong : ChangeSpec := { name := "cadenceFieldOrder", fn := fun _ => fun
  | [d1, d2, d3] => { results := [.lit (.bool false)], args := [d1, d2, d3] }
  | _ => none }
def CadenceFieldOrderWrongFalsely : Prop := cadenceFieldOrderRow.holds Try.pinned (OpenSpec.ofChange cadenceFieldOrderWrong)

/-- 'cutroomlaw20.CadenceWeaves': WHATEVER THE INPUT: true; the input reads as it did. -/
def cadenceWeavesSpec : ChangeSpec := { name := "cadenceWeaves", fn := fun _ => fun
  | [d1, d2, d3] => { results := [.lit (.bool true)], args := [d1, d2, d3] }
  | _ => none }
def cadenceWeavesRow : OpenClaim := { program := "ytepadbeijjefiaa", sum := "81e97c120a8b7ca0008f6d6a67334dbd47c038df5e28b2955e7ea12083debba2", func := "cutroom/cutroomlaw20.CadenceWeaves", spec := "cadenceWeaves", inPlace := ["math/bits.Add64", "math/bits.Sub64"], unfollowed := true, recurses := true, named := ["math/bits.divideError", "math/bits.overflowError"], apart := false }
def CadenceWeavesSaid : Prop := cadenceWeavesRow.holds Try.pinned (OpenSpec.ofChange cadenceWeavesSpec)

/-- ITS FALSE NEIGHBOUR: 'it returns false'. Refute it at one input. -/
def cadenceWeavesWrong : ChangeSpec := { name := "cadenceWeaves", fn := fun _ => fun
  | [d1, d2, d3] => { results := [.lit (.bool false)], args := [d1, d2, d3] }
  | _ => none }
def CadenceWeavesWrongFalsely : Prop := cadenceWeavesRow.holds Try.pinned (OpenSpec.ofChange cadenceWeavesWrong)

/- THE SECOND FORM. 'bulk': how many values and letters a reading holds, each counted each time it is reached (what is shared counts as often as it is met; a slice's spare places count too). A statement '..UptoSaid' is the law's where the arguments, and the package variables that the reading takes, are together of bulk at most 1048576: NARROWER than '..Said'. Prove '..Said' where nothing that the law and all that it calls make is longer than what came in: it says more and counts as full. Else prove '..UptoSaid'. A law counts once. -/
mutual
def uptoBulk {H : Type} : DataW H → Nat
  | .lit (.string bytes) => bytes.length + 1
  | .lit _ => 1
  | .nil => 1
  | .ptr d => uptoBulk d + 1
  | .slice elems spare => uptoBulkAll elems + uptoBulkAll spare + 1
  | .agg parts => uptoBulkAll parts + 1
  | .iface _ d => uptoBulk d + 1
  | .map entries => uptoBulkEntries entries + 1
  | .held _ => 1
def uptoBulkAll {H : Type} : List (DataW H) → Nat
  | [] => 0
  | d :: r => uptoBulk d + uptoBulkAll r
def uptoBulkEntries {H : Type} : List (Lit × DataW H) → Nat
  | [] => 0
  | x :: r => uptoBulkEntry x + uptoBulkEntries r
def uptoBulkEntry {H : Type} : Lit × DataW H → Nat
  | (.string bytes, d) => bytes.length + uptoBulk d + 1
  | (_, d) => uptoBulk d + 1
 end
def uptoSmall : (H : Type) → List (DataW H) → Bool := fun _ ds => decide (uptoBulkAll ds ≤ 1048576)
def OpenSpec.upto (s : _root_.Go.ChangeSpec) : _root_.Go.OpenSpec := { _root_.Go.OpenSpec.ofChange s with cond := some uptoSmall }

/-- 'cutroomlaw20.CadenceRates', WHERE WHAT IT READS IS OF BULK AT MOST 1048576: true; the input reads as it did. -/
def cadenceRatesUptoRow : OpenClaim := { program := "ytepadbeijjefiaa", sum := "81e97c120a8b7ca0008f6d6a67334dbd47c038df5e28b2955e7ea12083debba2", func := "cutroom/cutroomlaw20.CadenceRates", spec := "cadenceRates", inPlace := ["math/bits.Add64", "math/bits.Sub64"], unfollowed := true, recurses := true, named := ["math/bits.divideError", "math/bits.overflowError"], apart := false, narrowed := true }
def CadenceRatesUptoSaid : Prop := cadenceRatesUptoRow.holds Try.pinned (OpenSpec.upto cadenceRatesSpec)

/-- 'cutroomlaw20.CadenceFrames', WHERE WHAT IT READS IS OF BULK AT MOST 1048576: true; the input reads as it did. -/
def cadenceFramesUptoRow : OpenClaim := { program := "ytepadbeijjefiaa", sum := "81e97c120a8b7ca0008f6d6a67334dbd47c038df5e28b2955e7ea12083debba2", func := "cutroom/cutroomlaw20.CadenceFrames", spec := "cadenceFrames", inPlace := ["math/bits.Add64", "math/bits.Sub64"], unfollowed := true, recurses := true, named := ["math/bits.divideError", "math/bits.overflowError"], apart := false, narrowed := true }
def CadenceFramesUptoSaid : Prop := cadenceFramesUptoRow.holds Try.pinned (OpenSpec.upto cadenceFramesSpec)

/-- 'cutroomlaw20.CadenceShown', WHERE WHAT IT READS IS OF BULK AT MOST 1048576: true; the input reads as it did. -/
def cadenceShownUptoRow : OpenClaim := { program := "ytepadbeijjefiaa", sum := "81e97c120a8b7ca0008f6d6a67334dbd47c038df5e28b2955e7ea12083debba2", func := "cutroom/cutroomlaw20.CadenceShown", spec := "cadenceShown", inPlace := ["math/bits.Add64", "math/bits.Sub64"], unfollowed := true, recurses := true, named := ["math/bits.divideError", "math/bits.overflowError"], apart := false, narrowed := true }
def CadenceShownUptoSaid : Prop := cadenceShownUptoRow.holds Try.pinned (OpenSpec.upto cadenceShownSpec)

/-- 'cutroomlaw20.CadenceSamples', WHERE WHAT IT READS IS OF BULK AT MOST 1048576: true; the input reads as it did. -/
def cadenceSamplesUptoRow : OpenClaim := { program := "ytepadbeijjefiaa", sum := "81e97c120a8b7ca0008f6d6a67334dbd47c038df5e28b2955e7ea12083debba2", func := "cutroom/cutroomlaw20.CadenceSamples", spec := "cadenceSamples", inPlace := ["math/bits.Add64", "math/bits.Sub64"], unfollowed := true, recurses := true, named := ["math/bits.divideError", "math/bits.overflowError"], apart := false, narrowed := true }
def CadenceSamplesUptoSaid : Prop := cadenceSamplesUptoRow.holds Try.pinned (OpenSpec.upto cadenceSamplesSpec)

/-- 'cutroomlaw20.CadenceHalf', WHERE WHAT IT READS IS OF BULK AT MOST 1048576: true; the input reads as it did. -/
def cadenceHalfUptoRow : OpenClaim := { program := "ytepadbeijjefiaa", sum := "81e97c120a8b7ca0008f6d6a67334dbd47c038df5e28b2955e7ea12083debba2", func := "cutroom/cutroomlaw20.CadenceHalf", spec := "cadenceHalf", inPlace := ["math/bits.Add64", "math/bits.Sub64"], unfollowed := true, recurses := true, named := ["math/bits.divideError", "math/bits.overflowError"], apart := false, narrowed := true }
def CadenceHalfUptoSaid : Prop := cadenceHalfUptoRow.holds Try.pinned (OpenSpec.upto cadenceHalfSpec)

/-- 'cutroomlaw20.CadenceOwners', WHERE WHAT IT READS IS OF BULK AT MOST 1048576: true; the input reads as it did. -/
def cadenceOwnersUptoRow : OpenClaim := { program := "ytepadbeijjefiaa", sum := "81e97c120a8b7ca0008f6d6a67334dbd47c038df5e28b2955e7ea12083debba2", func := "cutroom/cutroomlaw20.CadenceOwners", spec := "cadenceOwners", inPlace := ["math/bits.Add64", "math/bits.Sub64"], unfollowed := true, recurses := true, named := ["math/bits.divideError", "math/bits.overflowError"], apart := false, narrowed := true }
def CadenceOwnersUptoSaid : Prop := cadenceOwnersUptoRow.holds Try.pinned (OpenSpec.upto cadenceOwnersSpec)

/-- 'cutroomlaw20.CadenceOwns', WHERE WHAT IT READS IS OF BULK AT MOST 1048576: true; the input reads as it did. -/
def cadenceOwnsUptoRow : OpenClaim := { program := "ytepadbeijjefiaa", sum := "81e97c120a8b7ca0008f6d6a67334dbd47c038df5e28b2955e7ea12083debba2", func := "cutroom/cutroomlaw20.CadenceOwns", spec := "cadenceOwns", inPlace := ["math/bits.Add64", "math/bits.Sub64"], unfollowed := true, recurses := true, named := ["math/bits.divideError", "math/bits.overflowError"], apart := false, narrowed := true }
def CadenceOwnsUptoSaid : Prop := cadenceOwnsUptoRow.holds Try.pinned (OpenSpec.upto cadenceOwnsSpec)

/-- 'cutroomlaw20.CadenceFields', WHERE WHAT IT READS IS OF BULK AT MOST 1048576: true; the input reads as it did. -/
def cadenceFieldsUptoRow : OpenClaim := { program := "ytepadbeijjefiaa", sum := "81e97c120a8b7ca0008f6d6a67334dbd47c038df5e28b2955e7ea12083debba2", func := "cutroom/cutroomlaw20.CadenceFields", spec := "cadenceFields", inPlace := ["math/bits.Add64", "math/bits.Sub64"], unfollowed := true, recurses := true, named := ["math/bits.divideError", "math/bits.overflowError"], apart := false, narrowed := true }
def CadenceFieldsUptoSaid : Prop := cadenceFieldsUptoRow.holds Try.pinned (OpenSpec.upto cadenceFieldsSpec)

/-- 'cutroomlaw20.CadencePulldown', WHERE WHAT IT READS IS OF BULK AT MOST 1048576: true; the input reads as it did. -/
def cadencePulldownUptoRow : OpenClaim := { program := "ytepadbeijjefiaa", sum := "81e97c120a8b7ca0008f6d6a67334dbd47c038df5e28b2955e7ea12083debba2", func := "cutroom/cutroomlaw20.CadencePulldown", spec := "cadencePulldown", inPlace := ["math/bits.Add64", "math/bits.Sub64"], unfollowed := true, recurses := true, named := ["math/bits.divideError", "math/bits.overflowError"], apart := false, narrowed := true }
def CadencePulldownUptoSaid : Prop := cadencePulldownUptoRow.holds Try.pinned (OpenSpec.upto cadencePulldownSpec)

/-- 'cutroomlaw20.CadenceFieldOrder', WHERE WHAT IT READS IS OF BULK AT MOST 1048576: true; the input reads as it did. -/
def cadenceFieldOrderUptoRow : OpenClaim := { program := "ytepadbeijjefiaa", sum := "81e97c120a8b7ca0008f6d6a67334dbd47c038df5e28b2955e7ea12083debba2", func := "cutroom/cutroomlaw20.CadenceFieldOrder", spec := "cadenceFieldOrder", inPlace := ["math/bits.Add64", "math/bits.Sub64"], unfollowed := true, recurses := true, named := ["math/bits.divideError", "math/bits.overflowError"], apart := false, narrowed := true }
def CadenceFieldOrderUptoSaid : Prop := cadenceFieldOrderUptoRow.holds Try.pinned (OpenSpec.upto cadenceFieldOrderSpec)

/-- 'cutroomlaw20.CadenceWeaves', WHERE WHAT IT READS IS OF BULK AT MOST 1048576: true; the input reads as it did. -/
def cadenceWeavesUptoRow : OpenClaim := { program := "ytepadbeijjefiaa", sum := "81e97c120a8b7ca0008f6d6a67334dbd47c038df5e28b2955e7ea12083debba2", func := "cutroom/cutroomlaw20.CadenceWeaves", spec := "cadenceWeaves", inPlace := ["math/bits.Add64", "math/bits.Sub64"], unfollowed := true, recurses := true, named := ["math/bits.divideError", "math/bits.overflowError"], apart := false, narrowed := true }
def CadenceWeavesUptoSaid : Prop := cadenceWeavesUptoRow.holds Try.pinned (OpenSpec.upto cadenceWeavesSpec)

end Rows
end Go.Proofs.Ytepadbeijjefiaa

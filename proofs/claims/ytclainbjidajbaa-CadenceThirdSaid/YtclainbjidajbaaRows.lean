/-
  No cell of these rows narrows 'for every input' (looked for: loops, veiled, ifaces, maps, wideKeys, modest, calm, conditions, laid).
  DERIVED. THE GIVEN ROWS OF THIS SEAT. 5 by the template 'for every input the law returns true; each argument reads behind the call as it read before'; 0 by the template 'total and deterministic' (their statements: YtclainbjidajbaaTotals.lean).
  GIVEN WITH THE SEED: the statements are not yours to turn. If you find one false, say at which input.
  Laid BY PROGRAM, IN A SANDBOX (cutbox-rows.mjs): the forced cells as the released guide's own fill.sh prints them over the translation 7f4db2251be14555… (all of the seat's roots in one cut). By AI agents, Wed Nov 11 2026. No macro, syntax, notation, axiom, sorry.
-/
import Derived.Test.YtclainbjidajbaaChecked
import GoSem.Claim
import GoSem.ClaimJoined
import GoSem.ClaimMapViews
import Derived.JoinedTies
import Derived.KernelRfl
namespace Go.Proofs.Ytclainbjidajbaa
/- THE CELL 'sum', in the pinned program and in every row, IS THE sha256 OF THE DUMP (.gsa) THAT YtclainbjidajbaaProg.lean LOADS. Nothing in Lean hashes anything: it is a label: what it is worth is what the hold of that sum in a sandbox is worth. -/
noncomputable def Try.pinned : Pinned := { name := "ytclainbjidajbaa", sum := "7f4db2251be145559ccc3f161487f835c2c6abead716473fb9bb64f3ed449a74", checked := Try.checked }
namespace Rows
def none {H : Type} : Left H := { results := [], args := [] }

/-- 'cutroomlaw20.CadenceRepeats': WHATEVER THE INPUT: true; the input reads as it did. -/
def cadenceRepeatsSpec : ChangeSpec := { name := "cadenceRepeats", fn := fun _ => fun
  | [d1, d2, d3] => { results := [.lit (.bool true)], args := [d1, d2, d3] }
  | _ => none }
def cadenceRepeatsRow : OpenClaim := { program := "ytclainbjidajbaa", sum := "7f4db2251be145559ccc3f161487f835c2c6abead716473fb9bb64f3ed449a74", func := "cutroom/cutroomlaw20.CadenceRepeats", spec := "cadenceRepeats", inPlace := ["math/bits.Add64", "math/bits.Sub64"], unfollowed := true, recurses := true, named := ["math/bits.divideError", "math/bits.overflowError"], apart := false }
def CadenceRepeatsSaid : Prop := cadenceRepeatsRow.holds Try.pinned (OpenSpec.ofChange cadenceRepeatsSpec)

/-- ITS FALSE NEIGHBOUR: 'it returns false'. Refute it at one input. -/
def cadenceRepeatsWrong : ChangeSpec := { name := "cadenceRepeats", fn := fun _ => fun
  | [d1, d2, d3] => { results := [.lit (.bool false)], args := [d1, d2, d3] }
  | _ => none }
def CadenceRepeatsWrongFalsely : Prop := cadenceRepeatsRow.holds Try.pinned (OpenSpec.ofChange cadenceRepeatsWrong)

/-- 'cutroomlaw20.CadencePulls': WHATEVER THE INPUT: true; the input reads as it did. -/
def cadencePullsSpec : ChangeSpec := { name := "cadencePulls", fn := fun _ => fun
  | [d1, d2, d3] => { results := [.lit (.bool true)], args := [d1, d2, d3] }
  | _ => none }
def cadencePullsRow : OpenClaim := { program := "ytclainbjidajbaa", sum := "7f4db2251be145559ccc3f161487f835c2c6abead716473fb9bb64f3ed449a74", func := "cutroom/cutroomlaw20.CadencePulls", spec := "cadencePulls", inPlace := ["math/bits.Add64", "math/bits.Sub64"], unfollowed := true, recurses := true, named := ["math/bits.divideError", "math/bits.overflowError"], apart := false }
def CadencePullsSaid : Prop := cadencePullsRow.holds Try.pinned (OpenSpec.ofChange cadencePullsSpec)

/-- ITS FALSE NEIGHBOUR: 'it returns false'. Refute it at one input. -/
def cadencePullsWrong : ChangeSpec := { name := "cadencePulls", fn := fun _ => fun
  | [d1, d2, d3] => { results := [.lit (.bool false)], args := [d1, d2, d3] }
  | _ => none }
def CadencePullsWrongFalsely : Prop := cadencePullsRow.holds Try.pinned (OpenSpec.ofChange cadencePullsWrong)

/-- 'cutroomlaw20.CadenceRestores': WHATEVER THE INPUT: true; the input reads as it did. -/
def cadenceRestoresSpec : ChangeSpec := { name := "cadenceRestores", fn := fun _ => fun
  | [d1, d2, d3] => { results := [.lit (.bool true)], args := [d1, d2, d3] }
  | _ => none }
def cadenceRestoresRow : OpenClaim := { program := "ytclainbjidajbaa", sum := "7f4db2251be145559ccc3f161487f835c2c6abead716473fb9bb64f3ed449a74", func := "cutroom/cutroomlaw20.CadenceRestores", spec := "cadenceRestores", inPlace := ["math/bits.Add64", "math/bits.Sub64"], unfollowed := true, recurses := true, named := ["math/bits.divideError", "math/bits.overflowError"], apart := false }
def CadenceRestoresSaid : Prop := cadenceRestoresRow.holds Try.pinned (OpenSpec.ofChange cadenceRestoresSpec)

/-- ITS FALSE NEIGHBOUR: 'it returns false'. Refute it at one input. -/
def cadenceRestoresWrong : ChangeSpec := { name := "cadenceRestores", fn := fun _ => fun
  | [d1, d2, d3] => { results := [.lit (.bool false)], args := [d1, d2, d3] }
  | _ => none }
def CadenceRestoresWrongFalsely : Prop := cadenceRestoresRow.holds Try.pinned (OpenSpec.ofChange cadenceRestoresWrong)

/-- 'cutroomlaw20.CadenceThird': WHATEVER THE INPUT: true; the input reads as it did. -/
def cadenceThirdSpec : ChangeSpec := { name := "cadenceThird", fn := fun _ => fun
  | [d1, d2, d3] => { results := [.lit (.bool true)], args := [d1, d2, d3] }
  | _ => none }
def cadenceThirdRow : OpenClaim := { program := "ytclainbjidajbaa", sum := "7f4db2251be145559ccc3f161487f835c2c6abead716473fb9bb64f3ed449a74", func := "cutroom/cutroomlaw20.CadenceThird", spec := "cadenceThird", inPlace := ["math/bits.Add64", "math/bits.Sub64"], unfollowed := true, recurses := true, named := ["math/bits.divideError", "math/bits.overflowError"], apart := false }
def CadenceThirdSaid : Prop := cadenceThirdRow.holds Try.pinned (OpenSpec.ofChange cadenceThirdSpec)

/-- ITS FALSE NEIGHBOUR: 'it returns false'. Refute it at one input. -/
def cadenceThirdWrong : ChangeSpec := { name := "cadenceThird", fn := fun _ => fun
  | [d1, d2, d3] => { results := [.lit (.bool false)], args := [d1, d2, d3] }
  | _ => none }
def CadenceThirdWrongFalsely : Prop := cadenceThirdRow.holds Try.pinned (OpenSpec.ofChange cadenceThirdWrong)

/-- 'cutroomlaw20.CadenceInverse': WHATEVER THE INPUT: true; the input reads as it did. -/
def cadenceInverseSpec : ChangeSpec := { name := "cadenceInverse", fn := fun _ => fun
  | [d1, d2, d3] => { results := [.lit (.bool true)], args := [d1, d2, d3] }
  | _ => none }
def cadenceInverseRow : OpenClaim := { program := "ytclainbjidajbaa", sum := "7f4db2251be145559ccc3f161487f835c2c6abead716473fb9bb64f3ed449a74", func := "cutroom/cutroomlaw20.CadenceInverse", spec := "cadenceInverse", inPlace := ["math/bits.Add64", "math/bits.Sub64"], unfollowed := true, recurses := true, named := ["math/bits.divideError", "math/bits.overflowError"], apart := false }
def CadenceInverseSaid : Prop := cadenceInverseRow.holds Try.pinned (OpenSpec.ofChange cadenceInverseSpec)

/-- ITS FALSE NEIGHBOUR: 'it returns false'. Refute it at one input. -/
def cadenceInverseWrong : ChangeSpec := { name := "cadenceInverse", fn := fun _ => fun
  | [d1, d2, d3] => { results := [.lit (.bool false)], args := [d1, d2, d3] }
  | _ => none }
def CadenceInverseWrongFalsely : Prop := cadenceInverseRow.holds Try.pinned (OpenSpec.ofChange cadenceInverseWrong)

/- THE SECOND FORM. 'bulk': how many values and letters a reading holds, each counted each time it is reached (what is shared counts as often as it is met; a slice's spare places count too). A statement '..UptoSaid' is the law's where the arguments, and the package variables that the reading takes, are together of bulk at most 1048576: NARROWER than '..Said'. Prove '..Said' where nothing that the law and all that it calls make is longer than what came in: it says more and counts as full. Else prove '..UptoSaid'. A law counts once. -/
mutual
def uptoBulk {H : Type} : DataW H → Nat
  | .lit (.string bytes) => bytes.length + 1
  | .lit _ => 1
  | .nil => 1
  | .ptr d => uptoBulk d + 1
  | .slice elems spare => uptoBulkAll elems + uptoBulkAll spare + 1
  | .agg parts => uptoBulkAll parts + 1
  | .iface _ d => uptoBulk d + 1
  | .map entries => uptoBulkEntries entries + 1
  | .held _ => 1
def uptoBulkAll {H : Type} : List (DataW H) → Nat
  | [] => 0
  | d :: r => uptoBulk d + uptoBulkAll r
def uptoBulkEntries {H : Type} : List (Lit × DataW H) → Nat
  | [] => 0
  | x :: r => uptoBulkEntry x + uptoBulkEntries r
def uptoBulkEntry {H : Type} : Lit × DataW H → Nat
  | (.string bytes, d) => bytes.length + uptoBulk d + 1
  | (_, d) => uptoBulk d + 1
 end
def uptoSmall : (H : Type) → List (DataW H) → Bool := fun _ ds => decide (uptoBulkAll ds ≤ 1048576)
def OpenSpec.upto (s : _root_.Go.ChangeSpec) : _root_.Go.OpenSpec := { _root_.Go.OpenSpec.ofChange s with cond := some uptoSmall }

/-- 'cutroomlaw20.CadenceRepeats', WHERE WHAT IT READS IS OF BULK AT MOST 1048576: true; the input reads as it did. -/
def cadenceRepeatsUptoRow : OpenClaim := { program := "ytclainbjidajbaa", sum := "7f4db2251be145559ccc3f161487f835c2c6abead716473fb9bb64f3ed449a74", func := "cutroom/cutroomlaw20.CadenceRepeats", spec := "cadenceRepeats", inPlace := ["math/bits.Add64", "math/bits.Sub64"], unfollowed := true, recurses := true, named := ["math/bits.divideError", "math/bits.overflowError"], apart := false, narrowed := true }
def CadenceRepeatsUptoSaid : Prop := cadenceRepeatsUptoRow.holds Try.pinned (OpenSpec.upto cadenceRepeatsSpec)

/-- 'cutroomlaw20.CadencePulls', WHERE WHAT IT READS IS OF BULK AT MOST 1048576: true; the input reads as it did. -/
def cadencePullsUptoRow : OpenClaim := { program := "ytclainbjidajbaa", sum := "7f4db2251be145559ccc3f161487f835c2c6abead716473fb9bb64f3ed449a74", func := "cutroom/cutroomlaw20.CadencePulls", spec := "cadencePulls", inPlace := ["math/bits.Add64", "math/bits.Sub64"], unfollowed := true, recurses := true, named := ["math/bits.divideError", "math/bits.overflowError"], apart := false, narrowed := true }
def CadencePullsUptoSaid : Prop := cadencePullsUptoRow.holds Try.pinned (OpenSpec.upto cadencePullsSpec)

/-- 'cutroomlaw20.CadenceRestores', WHERE WHAT IT READS IS OF BULK AT MOST 1048576: true; the input reads as it did. -/
def cadenceRestoresUptoRow : OpenClaim := { program := "ytclainbjidajbaa", sum := "7f4db2251be145559ccc3f161487f835c2c6abead716473fb9bb64f3ed449a74", func := "cutroom/cutroomlaw20.CadenceRestores", spec := "cadenceRestores", inPlace := ["math/bits.Add64", "math/bits.Sub64"], unfollowed := true, recurses := true, named := ["math/bits.divideError", "math/bits.overflowError"], apart := false, narrowed := true }
def CadenceRestoresUptoSaid : Prop := cadenceRestoresUptoRow.holds Try.pinned (OpenSpec.upto cadenceRestoresSpec)

/-- 'cutroomlaw20.CadenceThird', WHERE WHAT IT READS IS OF BULK AT MOST 1048576: true; the input reads as it did. -/
def cadenceThirdUptoRow : OpenClaim := { program := "ytclainbjidajbaa", sum := "7f4db2251be145559ccc3f161487f835c2c6abead716473fb9bb64f3ed449a74", func := "cutroom/cutroomlaw20.CadenceThird", spec := "cadenceThird", inPlace := ["math/bits.Add64", "math/bits.Sub64"], unfollowed := true, recurses := true, named := ["math/bits.divideError", "math/bits.overflowError"], apart := false, narrowed := true }
def CadenceThirdUptoSaid : Prop := cadenceThirdUptoRow.holds Try.pinned (OpenSpec.upto cadenceThirdSpec)

/-- 'cutroomlaw20.CadenceInverse', WHERE WHAT IT READS IS OF BULK AT MOST 1048576: true; the input reads as it did. -/
def cadenceInverseUptoRow : OpenClaim := { program := "ytclainbjidajbaa", sum := "7f4db2251be145559ccc3f161487f835c2c6abead716473fb9bb64f3ed449a74", func := "cutroom/cutroomlaw20.CadenceInverse", spec := "cadenceInverse", inPlace := ["math/bits.Add64", "math/bits.Sub64"], unfollowed := true, recurses := true, named := ["math/bits.divideError", "math/bits.overflowError"], apart := false, narrowed := true }
def CadenceInverseUptoSaid : Prop := cadenceInverseUptoRow.holds Try.pinned (OpenSpec.upto cadenceInverseSpec)

end Rows
end Go.Proofs.Ytclainbjidajbaa

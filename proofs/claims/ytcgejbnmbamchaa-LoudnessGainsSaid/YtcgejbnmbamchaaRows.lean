/-
  No cell of these rows narrows 'for every input' (looked for: loops, veiled, ifaces, maps, wideKeys, modest, calm, conditions, laid).
  DERIVED. THE GIVEN ROWS OF THIS SEAT. 10 by the template 'for every input the law returns true; each argument reads behind the call as it read before'; 0 by the template 'total and deterministic' (their statements: YtcgejbnmbamchaaTotals.lean).
  GIVEN WITH THE SEED: the statements are not yours to turn. If you find one false, say at which input.
  Laid BY PROGRAM, IN A SANDBOX (cutbox-rows.mjs): the forced cells as the released guide's own fill.sh prints them over the translation 3de2f2d2528f2d99… (all of the seat's roots in one cut). By AI agents, Wed Nov 11 2026. No macro, syntax, notation, axiom, sorry.
-/
import Derived.Test.YtcgejbnmbamchaaChecked
import GoSem.Claim
import GoSem.ClaimJoined
import GoSem.ClaimMapViews
import Derived.JoinedTies
import Derived.KernelRfl
namespace Go.Proofs.Ytcgejbnmbamchaa
/- THE CELL 'sum', in the pinned program and in every row, IS THE sha256 OF THE DUMP (.gsa) THAT YtcgejbnmbamchaaProg.lean LOADS. Nothing in Lean hashes anything: it is a label: what it is worth is what the hold of that sum in a sandbox is worth. -/
noncomputable def Try.pinned : Pinned := { name := "ytcgejbnmbamchaa", sum := "3de2f2d2528f2d99e402e0ee80bb1a87288e8f8dd01b3d15eee34b1c13322bff", checked := Try.checked }
namespace Rows
def none {H : Type} : Left H := { results := [], args := [] }

/-- 'cutroomlaw28.LoudnessPowers': WHATEVER THE INPUT: true; the input reads as it did. -/
def loudnessPowersSpec : ChangeSpec := { name := "loudnessPowers", fn := fun _ => fun
  | [d1, d2] => { results := [.lit (.bool true)], args := [d1, d2] }
  | _ => none }
def loudnessPowersRow : OpenClaim := { program := "ytcgejbnmbamchaa", sum := "3de2f2d2528f2d99e402e0ee80bb1a87288e8f8dd01b3d15eee34b1c13322bff", func := "cutroom/cutroomlaw28.LoudnessPowers", spec := "loudnessPowers", unfollowed := true, recurses := true, apart := false }
def LoudnessPowersSaid : Prop := loudnessPowersRow.holds Try.pinned (OpenSpec.ofChange loudnessPowersSpec)

/-- ITS FALSE NEIGHBOUR: 'it returns false'. Refute it at one input. -/
def loudnessPowersWrong : ChangeSpec := { name := "loudnessPowers", fn := fun _ => fun
  | [d1, d2] => { results := [.lit (.bool false)], args := [d1, d2] }
  | _ => none }
def LoudnessPowersWrongFalsely : Prop := loudnessPowersRow.holds Try.pinned (OpenSpec.ofChange loudnessPowersWrong)

/-- 'cutroomlaw28.LoudnessGreatest': WHATEVER THE INPUT: true; the input reads as it did. -/
def loudnessGreatestSpec : ChangeSpec := { name := "loudnessGreatest", fn := fun _ => fun
  | [d1, d2, d3] => { results := [.lit (.bool true)], args := [d1, d2, d3] }
  | _ => none }
def loudnessGreatestRow : OpenClaim := { program := "ytcgejbnmbamchaa", sum := "3de2f2d2528f2d99e402e0ee80bb1a87288e8f8dd01b3d15eee34b1c13322bff", func := "cutroom/cutroomlaw28.LoudnessGreatest", spec := "loudnessGreatest", unfollowed := true, recurses := true, apart := false }
def LoudnessGreatestSaid : Prop := loudnessGreatestRow.holds Try.pinned (OpenSpec.ofChange loudnessGreatestSpec)

/-- ITS FALSE NEIGHBOUR: 'it returns false'. Refute it at one input. -/
def loudnessGreatestWrong : ChangeSpec := { name := "loudnessGreatest", fn := fun _ => fun
  | [d1, d2, d3] => { results := [.lit (.bool false)], args := [d1, d2, d3] }
  | _ => none }
def LoudnessGreatestWrongFalsely : Prop := loudnessGreatestRow.holds Try.pinned (OpenSpec.ofChange loudnessGreatestWrong)

/-- 'cutroomlaw28.LoudnessMonotone': WHATEVER THE INPUT: true; the input reads as it did. -/
def loudnessMonotoneSpec : ChangeSpec := { name := "loudnessMonotone", fn := fun _ => fun
  | [d1, d2, d3, d4, d5] => { results := [.lit (.bool true)], args := [d1, d2, d3, d4, d5] }
  | _ => none }
def loudnessMonotoneRow : OpenClaim := { program := "ytcgejbnmbamchaa", sum := "3de2f2d2528f2d99e402e0ee80bb1a87288e8f8dd01b3d15eee34b1c13322bff", func := "cutroom/cutroomlaw28.LoudnessMonotone", spec := "loudnessMonotone", unfollowed := true, recurses := true, apart := false }
def LoudnessMonotoneSaid : Prop := loudnessMonotoneRow.holds Try.pinned (OpenSpec.ofChange loudnessMonotoneSpec)

/-- ITS FALSE NEIGHBOUR: 'it returns false'. Refute it at one input. -/
def loudnessMonotoneWrong : ChangeSpec := { name := "loudnessMonotone", fn := fun _ => fun
  | [d1, d2, d3, d4, d5] => { results := [.lit (.bool false)], args := [d1, d2, d3, d4, d5] }
  | _ => none }
def LoudnessMonotoneWrongFalsely : Prop := loudnessMonotoneRow.holds Try.pinned (OpenSpec.ofChange loudnessMonotoneWrong)

/-- 'cutroomlaw28.LoudnessChannels': WHATEVER THE INPUT: true; the input reads as it did. -/
def loudnessChannelsSpec : ChangeSpec := { name := "loudnessChannels", fn := fun _ => fun
  | [d] => { results := [.lit (.bool true)], args := [d] }
  | _ => none }
def loudnessChannelsRow : OpenClaim := { program := "ytcgejbnmbamchaa", sum := "3de2f2d2528f2d99e402e0ee80bb1a87288e8f8dd01b3d15eee34b1c13322bff", func := "cutroom/cutroomlaw28.LoudnessChannels", spec := "loudnessChannels", unfollowed := true, recurses := true, apart := false }
def LoudnessChannelsSaid : Prop := loudnessChannelsRow.holds Try.pinned (OpenSpec.ofChange loudnessChannelsSpec)

/-- ITS FALSE NEIGHBOUR: 'it returns false'. Refute it at one input. -/
def loudnessChannelsWrong : ChangeSpec := { name := "loudnessChannels", fn := fun _ => fun
  | [d] => { results := [.lit (.bool false)], args := [d] }
  | _ => none }
def LoudnessChannelsWrongFalsely : Prop := loudnessChannelsRow.holds Try.pinned (OpenSpec.ofChange loudnessChannelsWrong)

/-- 'cutroomlaw28.LoudnessGates': WHATEVER THE INPUT: true; the input reads as it did. -/
def loudnessGatesSpec : ChangeSpec := { name := "loudnessGates", fn := fun _ => fun
  | [d1, d2] => { results := [.lit (.bool true)], args := [d1, d2] }
  | _ => none }
def loudnessGatesRow : OpenClaim := { program := "ytcgejbnmbamchaa", sum := "3de2f2d2528f2d99e402e0ee80bb1a87288e8f8dd01b3d15eee34b1c13322bff", func := "cutroom/cutroomlaw28.LoudnessGates", spec := "loudnessGates", unfollowed := true, recurses := true, apart := false }
def LoudnessGatesSaid : Prop := loudnessGatesRow.holds Try.pinned (OpenSpec.ofChange loudnessGatesSpec)

/-- ITS FALSE NEIGHBOUR: 'it returns false'. Refute it at one input. -/
def loudnessGatesWrong : ChangeSpec := { name := "loudnessGates", fn := fun _ => fun
  | [d1, d2] => { results := [.lit (.bool false)], args := [d1, d2] }
  | _ => none }
def LoudnessGatesWrongFalsely : Prop := loudnessGatesRow.holds Try.pinned (OpenSpec.ofChange loudnessGatesWrong)

/-- 'cutroomlaw28.LoudnessScales': WHATEVER THE INPUT: true; the input reads as it did. -/
def loudnessScalesSpec : ChangeSpec := { name := "loudnessScales", fn := fun _ => fun
  | [d] => { results := [.lit (.bool true)], args := [d] }
  | _ => none }
def loudnessScalesRow : OpenClaim := { program := "ytcgejbnmbamchaa", sum := "3de2f2d2528f2d99e402e0ee80bb1a87288e8f8dd01b3d15eee34b1c13322bff", func := "cutroom/cutroomlaw28.LoudnessScales", spec := "loudnessScales", unfollowed := true, recurses := true, apart := false }
def LoudnessScalesSaid : Prop := loudnessScalesRow.holds Try.pinned (OpenSpec.ofChange loudnessScalesSpec)

/-- ITS FALSE NEIGHBOUR: 'it returns false'. Refute it at one input. -/
def loudnessScalesWrong : ChangeSpec := { name := "loudnessScales", fn := fun _ => fun
  | [d] => { results := [.lit (.bool false)], args := [d] }
  | _ => none }
def LoudnessScalesWrongFalsely : Prop := loudnessScalesRow.holds Try.pinned (OpenSpec.ofChange loudnessScalesWrong)

/-- 'cutroomlaw28.LoudnessQuiet': WHATEVER THE INPUT: true; the input reads as it did. -/
def loudnessQuietSpec : ChangeSpec := { name := "loudnessQuiet", fn := fun _ => fun
  | [d] => { results := [.lit (.bool true)], args := [d] }
  | _ => none }
def loudnessQuietRow : OpenClaim := { program := "ytcgejbnmbamchaa", sum := "3de2f2d2528f2d99e402e0ee80bb1a87288e8f8dd01b3d15eee34b1c13322bff", func := "cutroom/cutroomlaw28.LoudnessQuiet", spec := "loudnessQuiet", unfollowed := true, recurses := true, apart := false }
def LoudnessQuietSaid : Prop := loudnessQuietRow.holds Try.pinned (OpenSpec.ofChange loudnessQuietSpec)

/-- ITS FALSE NEIGHBOUR: 'it returns false'. Refute it at one input. -/
def loudnessQuietWrong : ChangeSpec := { name := "loudnessQuiet", fn := fun _ => fun
  | [d] => { results := [.lit (.bool false)], args := [d] }
  | _ => none }
def LoudnessQuietWrongFalsely : Prop := loudnessQuietRow.holds Try.pinned (OpenSpec.ofChange loudnessQuietWrong)

/-- 'cutroomlaw28.LoudnessApplies': WHATEVER THE INPUT: true; the input reads as it did. -/
def loudnessAppliesSpec : ChangeSpec := { name := "loudnessApplies", fn := fun _ => fun
  | [d1, d2, d3] => { results := [.lit (.bool true)], args := [d1, d2, d3] }
  | _ => none }
def loudnessAppliesRow : OpenClaim := { program := "ytcgejbnmbamchaa", sum := "3de2f2d2528f2d99e402e0ee80bb1a87288e8f8dd01b3d15eee34b1c13322bff", func := "cutroom/cutroomlaw28.LoudnessApplies", spec := "loudnessApplies", unfollowed := true, recurses := true, apart := false }
def LoudnessAppliesSaid : Prop := loudnessAppliesRow.holds Try.pinned (OpenSpec.ofChange loudnessAppliesSpec)

/-- ITS FALSE NEIGHBOUR: 'it returns false'. Refute it at one input. -/
def loudnessAppliesWrong : ChangeSpec := { name := "loudnessApplies", fn := fun _ => fun
  | [d1, d2, d3] => { results := [.lit (.bool false)], args := [d1, d2, d3] }
  | _ => none }
def LoudnessAppliesWrongFalsely : Prop := loudnessAppliesRow.holds Try.pinned (OpenSpec.ofChange loudnessAppliesWrong)

/-- 'cutroomlaw28.LoudnessPeaks': WHATEVER THE INPUT: true; the input reads as it did. -/
def loudnessPeaksSpec : ChangeSpec := { name := "loudnessPeaks", fn := fun _ => fun
  | [d1, d2, d3] => { results := [.lit (.bool true)], args := [d1, d2, d3] }
  | _ => none }
def loudnessPeaksRow : OpenClaim := { program := "ytcgejbnmbamchaa", sum := "3de2f2d2528f2d99e402e0ee80bb1a87288e8f8dd01b3d15eee34b1c13322bff", func := "cutroom/cutroomlaw28.LoudnessPeaks", spec := "loudnessPeaks", unfollowed := true, recurses := true, apart := false }
def LoudnessPeaksSaid : Prop := loudnessPeaksRow.holds Try.pinned (OpenSpec.ofChange loudnessPeaksSpec)

/-- ITS FALSE NEIGHBOUR: 'it returns false'. Refute it at one input. -/
def loudnessPeaksWrong : ChangeSpec := { name := "loudnessPeaks", fn := fun _ => fun
  | [d1, d2, d3] => { results := [.lit (.bool false)], args := [d1, d2, d3] }
  | _ => none }
def LoudnessPeaksWrongFalsely : Prop := loudnessPeaksRow.holds Try.pinned (OpenSpec.ofChange loudnessPeaksWrong)

/-- 'cutroomlaw28.LoudnessGains': WHATEVER THE INPUT: true; the input reads as it did. -/
def loudnessGainsSpec : ChangeSpec := { name := "loudnessGains", fn := fun _ => fun
  | [d1, d2, d3, d4] => { results := [.lit (.bool true)], args := [d1, d2, d3, d4] }
  | _ => none }
def loudnessGainsRow : OpenClaim := { program := "ytcgejbnmbamchaa", sum := "3de2f2d2528f2d99e402e0ee80bb1a87288e8f8dd01b3d15eee34b1c13322bff", func := "cutroom/cutroomlaw28.LoudnessGains", spec := "loudnessGains", unfollowed := true, recurses := true, named := ["math/bits.divideError", "math/bits.overflowError"], apart := false }
def LoudnessGainsSaid : Prop := loudnessGainsRow.holds Try.pinned (OpenSpec.ofChange loudnessGainsSpec)

/-- ITS FALSE NEIGHBOUR: 'it returns false'. Refute it at one input. -/
def loudnessGainsWrong : ChangeSpec := { name := "loudnessGains", fn := fun _ => fun
  | [d1, d2, d3, d4] => { results := [.lit (.bool false)], args := [d1, d2, d3, d4] }
  | _ => none }
def LoudnessGainsWrongFalsely : Prop := loudnessGainsRow.holds Try.pinned (OpenSpec.ofChange loudnessGainsWrong)

/- THE SECOND FORM. 'bulk': how many values and letters a reading holds, each counted each time it is reached (what is shared counts as often as it is met; a slice's spare places count too). A statement '..UptoSaid' is the law's where the arguments, and the package variables that the reading takes, are together of bulk at most 1048576: NARROWER than '..Said'. Prove '..Said' where nothing that the law and all that it calls make is longer than what came in: it says more and counts as full. Else prove '..UptoSaid'. A law counts once. -/
mutual
def uptoBulk {H : Type} : DataW H → Nat
  | .lit (.string bytes) => bytes.length + 1
  | .lit _ => 1
  | .nil => 1
  | .ptr d => uptoBulk d + 1
  | .slice elems spare => uptoBulkAll elems + uptoBulkAll spare + 1
  | .agg parts => uptoBulkAll parts + 1
  | .iface _ d => uptoBulk d + 1
  | .map entries => uptoBulkEntries entries + 1
  | .held _ => 1
def uptoBulkAll {H : Type} : List (DataW H) → Nat
  | [] => 0
  | d :: r => uptoBulk d + uptoBulkAll r
def uptoBulkEntries {H : Type} : List (Lit × DataW H) → Nat
  | [] => 0
  | x :: r => uptoBulkEntry x + uptoBulkEntries r
def uptoBulkEntry {H : Type} : Lit × DataW H → Nat
  | (.string bytes, d) => bytes.length + uptoBulk d + 1
  | (_, d) => uptoBulk d + 1
 end
def uptoSmall : (H : Type) → List (DataW H) → Bool := fun _ ds => decide (uptoBulkAll ds ≤ 1048576)
def OpenSpec.upto (s : _root_.Go.ChangeSpec) : _root_.Go.OpenSpec := { _root_.Go.OpenSpec.ofChange s with cond := some uptoSmall }

/-- 'cutroomlaw28.LoudnessPowers', WHERE WHAT IT READS IS OF BULK AT MOST 1048576: true; the input reads as it did. -/
def loudnessPowersUptoRow : OpenClaim := { program := "ytcgejbnmbamchaa", sum := "3de2f2d2528f2d99e402e0ee80bb1a87288e8f8dd01b3d15eee34b1c13322bff", func := "cutroom/cutroomlaw28.LoudnessPowers", spec := "loudnessPowers", unfollowed := true, recurses := true, apart := false, narrowed := true }
def LoudnessPowersUptoSaid : Prop := loudnessPowersUptoRow.holds Try.pinned (OpenSpec.upto loudnessPowersSpec)

/-- 'cutroomlaw28.LoudnessGreatest', WHERE WHAT IT READS IS OF BULK AT MOST 1048576: true; the input reads as it did. -/
def loudnessGreatestUptoRow : OpenClaim := { program := "ytcgejbnmbamchaa", sum := "3de2f2d2528f2d99e402e0ee80bb1a87288e8f8dd01b3d15eee34b1c13322bff", func := "cutroom/cutroomlaw28.LoudnessGreatest", spec := "loudnessGreatest", unfollowed := true, recurses := true, apart := false, narrowed := true }
def LoudnessGreatestUptoSaid : Prop := loudnessGreatestUptoRow.holds Try.pinned (OpenSpec.upto loudnessGreatestSpec)

/-- 'cutroomlaw28.LoudnessMonotone', WHERE WHAT IT READS IS OF BULK AT MOST 1048576: true; the input reads as it did. -/
def loudnessMonotoneUptoRow : OpenClaim := { program := "ytcgejbnmbamchaa", sum := "3de2f2d2528f2d99e402e0ee80bb1a87288e8f8dd01b3d15eee34b1c13322bff", func := "cutroom/cutroomlaw28.LoudnessMonotone", spec := "loudnessMonotone", unfollowed := true, recurses := true, apart := false, narrowed := true }
def LoudnessMonotoneUptoSaid : Prop := loudnessMonotoneUptoRow.holds Try.pinned (OpenSpec.upto loudnessMonotoneSpec)

/-- 'cutroomlaw28.LoudnessChannels', WHERE WHAT IT READS IS OF BULK AT MOST 1048576: true; the input reads as it did. -/
def loudnessChannelsUptoRow : OpenClaim := { program := "ytcgejbnmbamchaa", sum := "3de2f2d2528f2d99e402e0ee80bb1a87288e8f8dd01b3d15eee34b1c13322bff", func := "cutroom/cutroomlaw28.LoudnessChannels", spec := "loudnessChannels", unfollowed := true, recurses := true, apart := false, narrowed := true }
def LoudnessChannelsUptoSaid : Prop := loudnessChannelsUptoRow.holds Try.pinned (OpenSpec.upto loudnessChannelsSpec)

/-- 'cutroomlaw28.LoudnessGates', WHERE WHAT IT READS IS OF BULK AT MOST 1048576: true; the input reads as it did. -/
def loudnessGatesUptoRow : OpenClaim := { program := "ytcgejbnmbamchaa", sum := "3de2f2d2528f2d99e402e0ee80bb1a87288e8f8dd01b3d15eee34b1c13322bff", func := "cutroom/cutroomlaw28.LoudnessGates", spec := "loudnessGates", unfollowed := true, recurses := true, apart := false, narrowed := true }
def LoudnessGatesUptoSaid : Prop := loudnessGatesUptoRow.holds Try.pinned (OpenSpec.upto loudnessGatesSpec)

/-- 'cutroomlaw28.LoudnessScales', WHERE WHAT IT READS IS OF BULK AT MOST 1048576: true; the input reads as it did. -/
def loudnessScalesUptoRow : OpenClaim := { program := "ytcgejbnmbamchaa", sum := "3de2f2d2528f2d99e402e0ee80bb1a87288e8f8dd01b3d15eee34b1c13322bff", func := "cutroom/cutroomlaw28.LoudnessScales", spec := "loudnessScales", unfollowed := true, recurses := true, apart := false, narrowed := true }
def LoudnessScalesUptoSaid : Prop := loudnessScalesUptoRow.holds Try.pinned (OpenSpec.upto loudnessScalesSpec)

/-- 'cutroomlaw28.LoudnessQuiet', WHERE WHAT IT READS IS OF BULK AT MOST 1048576: true; the input reads as it did. -/
def loudnessQuietUptoRow : OpenClaim := { program := "ytcgejbnmbamchaa", sum := "3de2f2d2528f2d99e402e0ee80bb1a87288e8f8dd01b3d15eee34b1c13322bff", func := "cutroom/cutroomlaw28.LoudnessQuiet", spec := "loudnessQuiet", unfollowed := true, recurses := true, apart := false, narrowed := true }
def LoudnessQuietUptoSaid : Prop := loudnessQuietUptoRow.holds Try.pinned (OpenSpec.upto loudnessQuietSpec)

/-- 'cutroomlaw28.LoudnessApplies', WHERE WHAT IT READS IS OF BULK AT MOST 1048576: true; the input reads as it did. -/
def loudnessAppliesUptoRow : OpenClaim := { program := "ytcgejbnmbamchaa", sum := "3de2f2d2528f2d99e402e0ee80bb1a87288e8f8dd01b3d15eee34b1c13322bff", func := "cutroom/cutroomlaw28.LoudnessApplies", spec := "loudnessApplies", unfollowed := true, recurses := true, apart := false, narrowed := true }
def LoudnessAppliesUptoSaid : Prop := loudnessAppliesUptoRow.holds Try.pinned (OpenSpec.upto loudnessAppliesSpec)

/-- 'cutroomlaw28.LoudnessPeaks', WHERE WHAT IT READS IS OF BULK AT MOST 1048576: true; the input reads as it did. -/
def loudnessPeaksUptoRow : OpenClaim := { program := "ytcgejbnmbamchaa", sum := "3de2f2d2528f2d99e402e0ee80bb1a87288e8f8dd01b3d15eee34b1c13322bff", func := "cutroom/cutroomlaw28.LoudnessPeaks", spec := "loudnessPeaks", unfollowed := true, recurses := true, apart := false, narrowed := true }
def LoudnessPeaksUptoSaid : Prop := loudnessPeaksUptoRow.holds Try.pinned (OpenSpec.upto loudnessPeaksSpec)

/-- 'cutroomlaw28.LoudnessGains', WHERE WHAT IT READS IS OF BULK AT MOST 1048576: true; the input reads as it did. -/
def loudnessGainsUptoRow : OpenClaim := { program := "ytcgejbnmbamchaa", sum := "3de2f2d2528f2d99e402e0ee80bb1a87288e8f8dd01b3d15eee34b1c13322bff", func := "cutroom/cutroomlaw28.LoudnessGains", spec := "loudnessGains", unfollowed := true, recurses := true, named := ["math/bits.divideError", "math/bits.overflowError"], apart := false, narrowed := true }
def LoudnessGainsUptoSaid : Prop := loudnessGainsUptoRow.holds Try.pinned (OpenSpec.upto loudnessGainsSpec)

end Rows
end Go.Proofs.Ytcgejbnmbamchaa

/-
  No cell of these rows narrows 'for every input' (looked for: loops, veiled, ifaces, maps, wideKeys, modest, calm, conditions, laid).
  DERIVED. THE GIVEN ROWS OF THIS SEAT. 8 by the template 'for every input the law returns true; each argument reads behind the call as it read before'; 0 by the template 'total and deterministic' (their statements: YtdnchjmopkhnaaaTotals.lean).
  GIVEN WITH THE SEED: the statements are not yours to turn. If you find one false, say at which input.
  Laid BY PROGRAM, IN A SANDBOX (cutbox-rows.mjs): the forced cells as the released guide's own fill.sh prints them over the translation 4db59b91b963148a… (all of the seat's roots in one cut). By AI agents, Wed Nov 11 2026. No macro, syntax, notation, axiom, sorry.
-/
import Derived.Test.YtdnchjmopkhnaaaChecked
import GoSem.Claim
import GoSem.ClaimJoined
import GoSem.ClaimMapViews
import Derived.JoinedTies
import Derived.KernelRfl
namespace Go.Proofs.Ytdnchjmopkhnaaa
/- THE CELL 'sum', in the pinned program and in every row, IS THE sha256 OF THE DUMP (.gsa) THAT YtdnchjmopkhnaaaProg.lean LOADS. Nothing in Lean hashes anything: it is a label: what it is worth is what the hold of that sum in a sandbox is worth. -/
noncomputable def Try.pinned : Pinned := { name := "ytdnchjmopkhnaaa", sum := "4db59b91b963148af09e5802fde38a5143bdec2bccfd7086deddc879ea616cce", checked := Try.checked }
namespace Rows
def none {H : Type} : Left H := { results := [], args := [] }

/-- 'cutroomlaw17.TransportPuts': WHATEVER THE INPUT: true; the input reads as it did. -/
def transportPutsSpec : ChangeSpec := { name := "transportPuts", fn := fun _ => fun
  | [d] => { results := [.lit (.bool true)], args := [d] }
  | _ => none }
def transportPutsRow : OpenClaim := { program := "ytdnchjmopkhnaaa", sum := "4db59b91b963148af09e5802fde38a5143bdec2bccfd7086deddc879ea616cce", func := "cutroom/cutroomlaw17.TransportPuts", spec := "transportPuts", unfollowed := true, recurses := true, plainKeys := false, apart := false }
def TransportPutsSaid : Prop := transportPutsRow.holds Try.pinned (OpenSpec.ofChange transportPutsSpec)

/-- ITS FALSE NEIGHBOUR: 'it returns false'. Refute it at one input. -/
def transportPutsWrong : ChangeSpec := { name := "transportPuts", fn := fun _ => fun
  | [d] => { results := [.lit (.bool false)], args := [d] }
  | _ => none }
def TransportPutsWrongFalsely : Prop := transportPutsRow.holds Try.pinned (OpenSpec.ofChange transportPutsWrong)

/-- 'cutroomlaw17.TransportTakes': WHATEVER THE INPUT: true; the input reads as it did. -/
def transportTakesSpec : ChangeSpec := { name := "transportTakes", fn := fun _ => fun
  | [d] => { results := [.lit (.bool true)], args := [d] }
  | _ => none }
def transportTakesRow : OpenClaim := { program := "ytdnchjmopkhnaaa", sum := "4db59b91b963148af09e5802fde38a5143bdec2bccfd7086deddc879ea616cce", func := "cutroom/cutroomlaw17.TransportTakes", spec := "transportTakes", unfollowed := true, recurses := true, plainKeys := false, apart := false }
def TransportTakesSaid : Prop := transportTakesRow.holds Try.pinned (OpenSpec.ofChange transportTakesSpec)

/-- ITS FALSE NEIGHBOUR: 'it returns false'. Refute it at one input. -/
def transportTakesWrong : ChangeSpec := { name := "transportTakes", fn := fun _ => fun
  | [d] => { results := [.lit (.bool false)], args := [d] }
  | _ => none }
def TransportTakesWrongFalsely : Prop := transportTakesRow.holds Try.pinned (OpenSpec.ofChange transportTakesWrong)

/-- 'cutroomlaw17.TransportScans': WHATEVER THE INPUT: true; the input reads as it did. -/
def transportScansSpec : ChangeSpec := { name := "transportScans", fn := fun _ => fun
  | [d] => { results := [.lit (.bool true)], args := [d] }
  | _ => none }
def transportScansRow : OpenClaim := { program := "ytdnchjmopkhnaaa", sum := "4db59b91b963148af09e5802fde38a5143bdec2bccfd7086deddc879ea616cce", func := "cutroom/cutroomlaw17.TransportScans", spec := "transportScans", unfollowed := true, recurses := true, plainKeys := false, apart := false }
def TransportScansSaid : Prop := transportScansRow.holds Try.pinned (OpenSpec.ofChange transportScansSpec)

/-- ITS FALSE NEIGHBOUR: 'it returns false'. Refute it at one input. -/
def transportScansWrong : ChangeSpec := { name := "transportScans", fn := fun _ => fun
  | [d] => { results := [.lit (.bool false)], args := [d] }
  | _ => none }
def TransportScansWrongFalsely : Prop := transportScansRow.holds Try.pinned (OpenSpec.ofChange transportScansWrong)

/-- 'cutroomlaw17.TransportBack': WHATEVER THE INPUT: true; the input reads as it did. -/
def transportBackSpec : ChangeSpec := { name := "transportBack", fn := fun _ => fun
  | [d] => { results := [.lit (.bool true)], args := [d] }
  | _ => none }
def transportBackRow : OpenClaim := { program := "ytdnchjmopkhnaaa", sum := "4db59b91b963148af09e5802fde38a5143bdec2bccfd7086deddc879ea616cce", func := "cutroom/cutroomlaw17.TransportBack", spec := "transportBack", unfollowed := true, recurses := true, plainKeys := false, apart := false }
def TransportBackSaid : Prop := transportBackRow.holds Try.pinned (OpenSpec.ofChange transportBackSpec)

/-- ITS FALSE NEIGHBOUR: 'it returns false'. Refute it at one input. -/
def transportBackWrong : ChangeSpec := { name := "transportBack", fn := fun _ => fun
  | [d] => { results := [.lit (.bool false)], args := [d] }
  | _ => none }
def TransportBackWrongFalsely : Prop := transportBackRow.holds Try.pinned (OpenSpec.ofChange transportBackWrong)

/-- 'cutroomlaw17.TransportResync': WHATEVER THE INPUT: true; the input reads as it did. -/
def transportResyncSpec : ChangeSpec := { name := "transportResync", fn := fun _ => fun
  | [d1, d2] => { results := [.lit (.bool true)], args := [d1, d2] }
  | _ => none }
def transportResyncRow : OpenClaim := { program := "ytdnchjmopkhnaaa", sum := "4db59b91b963148af09e5802fde38a5143bdec2bccfd7086deddc879ea616cce", func := "cutroom/cutroomlaw17.TransportResync", spec := "transportResync", unfollowed := true, recurses := true, plainKeys := false, apart := false }
def TransportResyncSaid : Prop := transportResyncRow.holds Try.pinned (OpenSpec.ofChange transportResyncSpec)

/-- ITS FALSE NEIGHBOUR: 'it returns false'. Refute it at one input. -/
def transportResyncWrong : ChangeSpec := { name := "transportResync", fn := fun _ => fun
  | [d1, d2] => { results := [.lit (.bool false)], args := [d1, d2] }
  | _ => none }
def TransportResyncWrongFalsely : Prop := transportResyncRow.holds Try.pinned (OpenSpec.ofChange transportResyncWrong)

/-- 'cutroomlaw17.TransportCuts': WHATEVER THE INPUT: true; the input reads as it did. -/
def transportCutsSpec : ChangeSpec := { name := "transportCuts", fn := fun _ => fun
  | [d1, d2, d3, d4] => { results := [.lit (.bool true)], args := [d1, d2, d3, d4] }
  | _ => none }
def transportCutsRow : OpenClaim := { program := "ytdnchjmopkhnaaa", sum := "4db59b91b963148af09e5802fde38a5143bdec2bccfd7086deddc879ea616cce", func := "cutroom/cutroomlaw17.TransportCuts", spec := "transportCuts", unfollowed := true, recurses := true, plainKeys := false, apart := false }
def TransportCutsSaid : Prop := transportCutsRow.holds Try.pinned (OpenSpec.ofChange transportCutsSpec)

/-- ITS FALSE NEIGHBOUR: 'it returns false'. Refute it at one input. -/
def transportCutsWrong : ChangeSpec := { name := "transportCuts", fn := fun _ => fun
  | [d1, d2, d3, d4] => { results := [.lit (.bool false)], args := [d1, d2, d3, d4] }
  | _ => none }
def TransportCutsWrongFalsely : Prop := transportCutsRow.holds Try.pinned (OpenSpec.ofChange transportCutsWrong)

/-- 'cutroomlaw17.TransportClocks': WHATEVER THE INPUT: true; the input reads as it did. -/
def transportClocksSpec : ChangeSpec := { name := "transportClocks", fn := fun _ => fun
  | [d1, d2, d3, d4] => { results := [.lit (.bool true)], args := [d1, d2, d3, d4] }
  | _ => none }
def transportClocksRow : OpenClaim := { program := "ytdnchjmopkhnaaa", sum := "4db59b91b963148af09e5802fde38a5143bdec2bccfd7086deddc879ea616cce", func := "cutroom/cutroomlaw17.TransportClocks", spec := "transportClocks", unfollowed := true, recurses := true, named := ["math/bits.divideError", "math/bits.overflowError"], plainKeys := false, apart := false }
def TransportClocksSaid : Prop := transportClocksRow.holds Try.pinned (OpenSpec.ofChange transportClocksSpec)

/-- ITS FALSE NEIGHBOUR: 'it returns false'. Refute it at one input. -/
def transportClocksWrong : ChangeSpec := { name := "transportClocks", fn := fun _ => fun
  | [d1, d2, d3, d4] => { results := [.lit (.bool false)], args := [d1, d2, d3, d4] }
  | _ => none }
def TransportClocksWrongFalsely : Prop := transportClocksRow.holds Try.pinned (OpenSpec.ofChange transportClocksWrong)

/-- 'cutroomlaw17.TransportSteady': WHATEVER THE INPUT: true; the input reads as it did. -/
def transportSteadySpec : ChangeSpec := { name := "transportSteady", fn := fun _ => fun
  | [d1, d2, d3] => { results := [.lit (.bool true)], args := [d1, d2, d3] }
  | _ => none }
def transportSteadyRow : OpenClaim := { program := "ytdnchjmopkhnaaa", sum := "4db59b91b963148af09e5802fde38a5143bdec2bccfd7086deddc879ea616cce", func := "cutroom/cutroomlaw17.TransportSteady", spec := "transportSteady", unfollowed := true, recurses := true, named := ["math/bits.divideError", "math/bits.overflowError"], plainKeys := false, apart := false }
def TransportSteadySaid : Prop := transportSteadyRow.holds Try.pinned (OpenSpec.ofChange transportSteadySpec)

/-- ITS FALSE NEIGHBOUR: 'it returns false'. Refute it at one input. -/
def transportSteadyWrong : ChangeSpec := { name := "transportSteady", fn := fun _ => fun
  | [d1, d2, d3] => { results := [.lit (.bool false)], args := [d1, d2, d3] }
  | _ => none }
def TransportSteadyWrongFalsely : Prop := transportSteadyRow.holds Try.pinned (OpenSpec.ofChange transportSteadyWrong)

/- THE SECOND FORM. 'bulk': how many values and letters a reading holds, each counted each time it is reached (what is shared counts as often as it is met; a slice's spare places count too). A statement '..UptoSaid' is the law's where the arguments, and the package variables that the reading takes, are together of bulk at most 1048576: NARROWER than '..Said'. Prove '..Said' where nothing that the law and all that it calls make is longer than what came in: it says more and counts as full. Else prove '..UptoSaid'. A law counts once. -/
mutual
def uptoBulk {H : Type} : DataW H → Nat
  | .lit (.string bytes) => bytes.length + 1
  | .lit _ => 1
  | .nil => 1
  | .ptr d => uptoBulk d + 1
  | .slice elems spare => uptoBulkAll elems + uptoBulkAll spare + 1
  | .agg parts => uptoBulkAll parts + 1
  | .iface _ d => uptoBulk d + 1
  | .map entries => uptoBulkEntries entries + 1
  | .held _ => 1
def uptoBulkAll {H : Type} : List (DataW H) → Nat
  | [] => 0
  | d :: r => uptoBulk d + uptoBulkAll r
def uptoBulkEntries {H : Type} : List (Lit × DataW H) → Nat
  | [] => 0
  | x :: r => uptoBulkEntry x + uptoBulkEntries r
def uptoBulkEntry {H : Type} : Lit × DataW H → Nat
  | (.string bytes, d) => bytes.length + uptoBulk d + 1
  | (_, d) => uptoBulk d + 1
 end
def uptoSmall : (H : Type) → List (DataW H) → Bool := fun _ ds => decide (uptoBulkAll ds ≤ 1048576)
def OpenSpec.upto (s : _root_.Go.ChangeSpec) : _root_.Go.OpenSpec := { _root_.Go.OpenSpec.ofChange s with cond := some uptoSmall }

/-- 'cutroomlaw17.TransportPuts', WHERE WHAT IT READS IS OF BULK AT MOST 1048576: true; the input reads as it did. -/
def transportPutsUptoRow : OpenClaim := { program := "ytdnchjmopkhnaaa", sum := "4db59b91b963148af09e5802fde38a5143bdec2bccfd7086deddc879ea616cce", func := "cutroom/cutroomlaw17.TransportPuts", spec := "transportPuts", unfollowed := true, recurses := true, plainKeys := false, apart := false, narrowed := true }
def TransportPutsUptoSaid : Prop := transportPutsUptoRow.holds Try.pinned (OpenSpec.upto transportPutsSpec)

/-- 'cutroomlaw17.TransportTakes', WHERE WHAT IT READS IS OF BULK AT MOST 1048576: true; the input reads as it did. -/
def transportTakesUptoRow : OpenClaim := { program := "ytdnchjmopkhnaaa", sum := "4db59b91b963148af09e5802fde38a5143bdec2bccfd7086deddc879ea616cce", func := "cutroom/cutroomlaw17.TransportTakes", spec := "transportTakes", unfollowed := true, recurses := true, plainKeys := false, apart := false, narrowed := true }
def TransportTakesUptoSaid : Prop := transportTakesUptoRow.holds Try.pinned (OpenSpec.upto transportTakesSpec)

/-- 'cutroomlaw17.TransportScans', WHERE WHAT IT READS IS OF BULK AT MOST 1048576: true; the input reads as it did. -/
def transportScansUptoRow : OpenClaim := { program := "ytdnchjmopkhnaaa", sum := "4db59b91b963148af09e5802fde38a5143bdec2bccfd7086deddc879ea616cce", func := "cutroom/cutroomlaw17.TransportScans", spec := "transportScans", unfollowed := true, recurses := true, plainKeys := false, apart := false, narrowed := true }
def TransportScansUptoSaid : Prop := transportScansUptoRow.holds Try.pinned (OpenSpec.upto transportScansSpec)

/-- 'cutroomlaw17.TransportBack', WHERE WHAT IT READS IS OF BULK AT MOST 1048576: true; the input reads as it did. -/
def transportBackUptoRow : OpenClaim := { program := "ytdnchjmopkhnaaa", sum := "4db59b91b963148af09e5802fde38a5143bdec2bccfd7086deddc879ea616cce", func := "cutroom/cutroomlaw17.TransportBack", spec := "transportBack", unfollowed := true, recurses := true, plainKeys := false, apart := false, narrowed := true }
def TransportBackUptoSaid : Prop := transportBackUptoRow.holds Try.pinned (OpenSpec.upto transportBackSpec)

/-- 'cutroomlaw17.TransportResync', WHERE WHAT IT READS IS OF BULK AT MOST 1048576: true; the input reads as it did. -/
def transportResyncUptoRow : OpenClaim := { program := "ytdnchjmopkhnaaa", sum := "4db59b91b963148af09e5802fde38a5143bdec2bccfd7086deddc879ea616cce", func := "cutroom/cutroomlaw17.TransportResync", spec := "transportResync", unfollowed := true, recurses := true, plainKeys := false, apart := false, narrowed := true }
def TransportResyncUptoSaid : Prop := transportResyncUptoRow.holds Try.pinned (OpenSpec.upto transportResyncSpec)

/-- 'cutroomlaw17.TransportCuts', WHERE WHAT IT READS IS OF BULK AT MOST 1048576: true; the input reads as it did. -/
def transportCutsUptoRow : OpenClaim := { program := "ytdnchjmopkhnaaa", sum := "4db59b91b963148af09e5802fde38a5143bdec2bccfd7086deddc879ea616cce", func := "cutroom/cutroomlaw17.TransportCuts", spec := "transportCuts", unfollowed := true, recurses := true, plainKeys := false, apart := false, narrowed := true }
def TransportCutsUptoSaid : Prop := transportCutsUptoRow.holds Try.pinned (OpenSpec.upto transportCutsSpec)

/-- 'cutroomlaw17.TransportClocks', WHERE WHAT IT READS IS OF BULK AT MOST 1048576: true; the input reads as it did. -/
def transportClocksUptoRow : OpenClaim := { program := "ytdnchjmopkhnaaa", sum := "4db59b91b963148af09e5802fde38a5143bdec2bccfd7086deddc879ea616cce", func := "cutroom/cutroomlaw17.TransportClocks", spec := "transportClocks", unfollowed := true, recurses := true, named := ["math/bits.divideError", "math/bits.overflowError"], plainKeys := false, apart := false, narrowed := true }
def TransportClocksUptoSaid : Prop := transportClocksUptoRow.holds Try.pinned (OpenSpec.upto transportClocksSpec)

/-- 'cutroomlaw17.TransportSteady', WHERE WHAT IT READS IS OF BULK AT MOST 1048576: true; the input reads as it did. -/
def transportSteadyUptoRow : OpenClaim := { program := "ytdnchjmopkhnaaa", sum := "4db59b91b963148af09e5802fde38a5143bdec2bccfd7086deddc879ea616cce", func := "cutroom/cutroomlaw17.TransportSteady", spec := "transportSteady", unfollowed := true, recurses := true, named := ["math/bits.divideError", "math/bits.overflowError"], plainKeys := false, apart := false, narrowed := true }
def TransportSteadyUptoSaid : Prop := transportSteadyUptoRow.holds Try.pinned (OpenSpec.upto transportSteadySpec)

end Rows
end Go.Proofs.Ytdnchjmopkhnaaa

/-
  No cell of these rows narrows 'for every input' (looked for: loops, veiled, ifaces, maps, wideKeys, modest, calm, conditions, laid).
  DERIVED. THE GIVEN ROWS OF THIS SEAT. 7 by the template 'for every input the law returns true; each argument reads behind the call as it read before'; 0 by the template 'total and deterministic' (their statements: YtojfaonlgkicfaaTotals.lean).
  GIVEN WITH THE SEED: the statements are not yours to turn. If you find one false, say at which input.
  Laid BY PROGRAM, IN A SANDBOX (cutbox-rows.mjs): the forced cells as the released guide's own fill.sh prints them over the translation 9225caee9a03f2d9… (all of the seat's roots in one cut). By AI agents, Wed Nov 11 2026. No macro, syntax, notation, axiom, sorry.
-/
import Derived.Test.YtojfaonlgkicfaaChecked
import GoSem.Claim
import GoSem.ClaimJoined
import GoSem.ClaimMapViews
import Derived.JoinedTies
import Derived.KernelRfl
namespace Go.Proofs.Ytojfaonlgkicfaa
/- THE CELL 'sum', in the pinned program and in every row, IS THE sha256 OF THE DUMP (.gsa) THAT YtojfaonlgkicfaaProg.lean LOADS. Nothing in Lean hashes anything: it is a label: what it is worth is what the hold of that sum in a sandbox is worth. -/
noncomputable def Try.pinned : Pinned := { name := "ytojfaonlgkicfaa", sum := "9225caee9a03f2d98281b177057197056d975c6cf09f8732b510f72437ff24b3", checked := Try.checked }
namespace Rows
def none {H : Type} : Left H := { results := [], args := [] }

/-- 'cutroomlaw16.PesUnwraps': WHATEVER THE INPUT: true; the input reads as it did. -/
def pesUnwrapsSpec : ChangeSpec := { name := "pesUnwraps", fn := fun _ => fun
  | [d1, d2] => { results := [.lit (.bool true)], args := [d1, d2] }
  | _ => none }
def pesUnwrapsRow : OpenClaim := { program := "ytojfaonlgkicfaa", sum := "9225caee9a03f2d98281b177057197056d975c6cf09f8732b510f72437ff24b3", func := "cutroom/cutroomlaw16.PesUnwraps", spec := "pesUnwraps", apart := false }
def PesUnwrapsSaid : Prop := pesUnwrapsRow.holds Try.pinned (OpenSpec.ofChange pesUnwrapsSpec)

/-- ITS FALSE NEIGHBOUR: 'it returns false'. Refute it at one input. -/
def pesUnwrapsWrong : ChangeSpec := { name := "pesUnwraps", fn := fun _ => fun
  | [d1, d2] => { results := [.lit (.bool false)], args := [d1, d2] }
  | _ => none }
def PesUnwrapsWrongFalsely : Prop := pesUnwrapsRow.holds Try.pinned (OpenSpec.ofChange pesUnwrapsWrong)

/-- 'cutroomlaw16.PesJoins': WHATEVER THE INPUT: true; the input reads as it did. -/
def pesJoinsSpec : ChangeSpec := { name := "pesJoins", fn := fun _ => fun
  | [d] => { results := [.lit (.bool true)], args := [d] }
  | _ => none }
def pesJoinsRow : OpenClaim := { program := "ytojfaonlgkicfaa", sum := "9225caee9a03f2d98281b177057197056d975c6cf09f8732b510f72437ff24b3", func := "cutroom/cutroomlaw16.PesJoins", spec := "pesJoins", unfollowed := true, recurses := true, apart := false }
def PesJoinsSaid : Prop := pesJoinsRow.holds Try.pinned (OpenSpec.ofChange pesJoinsSpec)

/-- ITS FALSE NEIGHBOUR: 'it returns false'. Refute it at one input. -/
def pesJoinsWrong : ChangeSpec := { name := "pesJoins", fn := fun _ => fun
  | [d] => { results := [.lit (.bool false)], args := [d] }
  | _ => none }
def PesJoinsWrongFalsely : Prop := pesJoinsRow.holds Try.pinned (OpenSpec.ofChange pesJoinsWrong)

/-- 'cutroomlaw16.PesCuts': WHATEVER THE INPUT: true; the input reads as it did. -/
def pesCutsSpec : ChangeSpec := { name := "pesCuts", fn := fun _ => fun
  | [d1, d2, d3, d4, d5] => { results := [.lit (.bool true)], args := [d1, d2, d3, d4, d5] }
  | _ => none }
def pesCutsRow : OpenClaim := { program := "ytojfaonlgkicfaa", sum := "9225caee9a03f2d98281b177057197056d975c6cf09f8732b510f72437ff24b3", func := "cutroom/cutroomlaw16.PesCuts", spec := "pesCuts", unfollowed := true, recurses := true, apart := false }
def PesCutsSaid : Prop := pesCutsRow.holds Try.pinned (OpenSpec.ofChange pesCutsSpec)

/-- ITS FALSE NEIGHBOUR: 'it returns false'. Refute it at one input. -/
def pesCutsWrong : ChangeSpec := { name := "pesCuts", fn := fun _ => fun
  | [d1, d2, d3, d4, d5] => { results := [.lit (.bool false)], args := [d1, d2, d3, d4, d5] }
  | _ => none }
def PesCutsWrongFalsely : Prop := pesCutsRow.holds Try.pinned (OpenSpec.ofChange pesCutsWrong)

/-- 'cutroomlaw16.PesPuts': WHATEVER THE INPUT: true; the input reads as it did. -/
def pesPutsSpec : ChangeSpec := { name := "pesPuts", fn := fun _ => fun
  | [d1, d2] => { results := [.lit (.bool true)], args := [d1, d2] }
  | _ => none }
def pesPutsRow : OpenClaim := { program := "ytojfaonlgkicfaa", sum := "9225caee9a03f2d98281b177057197056d975c6cf09f8732b510f72437ff24b3", func := "cutroom/cutroomlaw16.PesPuts", spec := "pesPuts", unfollowed := true, recurses := true, apart := false }
def PesPutsSaid : Prop := pesPutsRow.holds Try.pinned (OpenSpec.ofChange pesPutsSpec)

/-- ITS FALSE NEIGHBOUR: 'it returns false'. Refute it at one input. -/
def pesPutsWrong : ChangeSpec := { name := "pesPuts", fn := fun _ => fun
  | [d1, d2] => { results := [.lit (.bool false)], args := [d1, d2] }
  | _ => none }
def PesPutsWrongFalsely : Prop := pesPutsRow.holds Try.pinned (OpenSpec.ofChange pesPutsWrong)

/-- 'cutroomlaw16.PesTakes': WHATEVER THE INPUT: true; the input reads as it did. -/
def pesTakesSpec : ChangeSpec := { name := "pesTakes", fn := fun _ => fun
  | [d] => { results := [.lit (.bool true)], args := [d] }
  | _ => none }
def pesTakesRow : OpenClaim := { program := "ytojfaonlgkicfaa", sum := "9225caee9a03f2d98281b177057197056d975c6cf09f8732b510f72437ff24b3", func := "cutroom/cutroomlaw16.PesTakes", spec := "pesTakes", unfollowed := true, recurses := true, apart := false }
def PesTakesSaid : Prop := pesTakesRow.holds Try.pinned (OpenSpec.ofChange pesTakesSpec)

/-- ITS FALSE NEIGHBOUR: 'it returns false'. Refute it at one input. -/
def pesTakesWrong : ChangeSpec := { name := "pesTakes", fn := fun _ => fun
  | [d] => { results := [.lit (.bool false)], args := [d] }
  | _ => none }
def PesTakesWrongFalsely : Prop := pesTakesRow.holds Try.pinned (OpenSpec.ofChange pesTakesWrong)

/-- 'cutroomlaw16.PesTicks': WHATEVER THE INPUT: true; the input reads as it did. -/
def pesTicksSpec : ChangeSpec := { name := "pesTicks", fn := fun _ => fun
  | [d1, d2] => { results := [.lit (.bool true)], args := [d1, d2] }
  | _ => none }
def pesTicksRow : OpenClaim := { program := "ytojfaonlgkicfaa", sum := "9225caee9a03f2d98281b177057197056d975c6cf09f8732b510f72437ff24b3", func := "cutroom/cutroomlaw16.PesTicks", spec := "pesTicks", inPlace := ["math/bits.Add64", "math/bits.Sub64"], named := ["math/bits.divideError", "math/bits.overflowError"], apart := false }
def PesTicksSaid : Prop := pesTicksRow.holds Try.pinned (OpenSpec.ofChange pesTicksSpec)

/-- ITS FALSE NEIGHBOUR: 'it returns false'. Refute it at one input. -/
def pesTicksWrong : ChangeSpec := { name := "pesTicks", fn := fun _ => fun
  | [d1, d2] => { results := [.lit (.bool false)], args := [d1, d2] }
  | _ => none }
def PesTicksWrongFalsely : Prop := pesTicksRow.holds Try.pinned (OpenSpec.ofChange pesTicksWrong)

/-- 'cutroomlaw16.PesLong': WHATEVER THE INPUT: true; the input reads as it did. -/
def pesLongSpec : ChangeSpec := { name := "pesLong", fn := fun _ => fun
  | [d1, d2, d3] => { results := [.lit (.bool true)], args := [d1, d2, d3] }
  | _ => none }
def pesLongRow : OpenClaim := { program := "ytojfaonlgkicfaa", sum := "9225caee9a03f2d98281b177057197056d975c6cf09f8732b510f72437ff24b3", func := "cutroom/cutroomlaw16.PesLong", spec := "pesLong", inPlace := ["math/bits.Add64", "math/bits.Sub64"], named := ["math/bits.divideError", "math/bits.overflowError"], apart := false }
def PesLongSaid : Prop := pesLongRow.holds Try.pinned (OpenSpec.ofChange pesLongSpec)

/-- ITS FALSE NEIGHBOUR: 'it returns false'. Refute it at one input. -/
def pesLongWrong : ChangeSpec := { name := "pesLong", fn := fun _ => fun
  | [d1, d2, d3] => { results := [.lit (.bool false)], args := [d1, d2, d3] }
  | _ => none }
def PesLongWrongFalsely : Prop := pesLongRow.holds Try.pinned (OpenSpec.ofChange pesLongWrong)

/- THE SECOND FORM. 'bulk': how many values and letters a reading holds, each counted each time it is reached (what is shared counts as often as it is met; a slice's spare places count too). A statement '..UptoSaid' is the law's where the arguments, and the package variables that the reading takes, are together of bulk at most 1048576: NARROWER than '..Said'. Prove '..Said' where nothing that the law and all that it calls make is longer than what came in: it says more and counts as full. Else prove '..UptoSaid'. A law counts once. -/
mutual
def uptoBulk {H : Type} : DataW H → Nat
  | .lit (.string bytes) => bytes.length + 1
  | .lit _ => 1
  | .nil => 1
  | .ptr d => uptoBulk d + 1
  | .slice elems spare => uptoBulkAll elems + uptoBulkAll spare + 1
  | .agg parts => uptoBulkAll parts + 1
  | .iface _ d => uptoBulk d + 1
  | .map entries => uptoBulkEntries entries + 1
  | .held _ => 1
def uptoBulkAll {H : Type} : List (DataW H) → Nat
  | [] => 0
  | d :: r => uptoBulk d + uptoBulkAll r
def uptoBulkEntries {H : Type} : List (Lit × DataW H) → Nat
  | [] => 0
  | x :: r => uptoBulkEntry x + uptoBulkEntries r
def uptoBulkEntry {H : Type} : Lit × DataW H → Nat
  | (.string bytes, d) => bytes.length + uptoBulk d + 1
  | (_, d) => uptoBulk d + 1
 end
def uptoSmall : (H : Type) → List (DataW H) → Bool := fun _ ds => decide (uptoBulkAll ds ≤ 1048576)
def OpenSpec.upto (s : _root_.Go.ChangeSpec) : _root_.Go.OpenSpec := { _root_.Go.OpenSpec.ofChange s with cond := some uptoSmall }

/-- 'cutroomlaw16.PesUnwraps', WHERE WHAT IT READS IS OF BULK AT MOST 1048576: true; the input reads as it did. -/
def pesUnwrapsUptoRow : OpenClaim := { program := "ytojfaonlgkicfaa", sum := "9225caee9a03f2d98281b177057197056d975c6cf09f8732b510f72437ff24b3", func := "cutroom/cutroomlaw16.PesUnwraps", spec := "pesUnwraps", apart := false, narrowed := true }
def PesUnwrapsUptoSaid : Prop := pesUnwrapsUptoRow.holds Try.pinned (OpenSpec.upto pesUnwrapsSpec)

/-- 'cutroomlaw16.PesJoins', WHERE WHAT IT READS IS OF BULK AT MOST 1048576: true; the input reads as it did. -/
def pesJoinsUptoRow : OpenClaim := { program := "ytojfaonlgkicfaa", sum := "9225caee9a03f2d98281b177057197056d975c6cf09f8732b510f72437ff24b3", func := "cutroom/cutroomlaw16.PesJoins", spec := "pesJoins", unfollowed := true, recurses := true, apart := false, narrowed := true }
def PesJoinsUptoSaid : Prop := pesJoinsUptoRow.holds Try.pinned (OpenSpec.upto pesJoinsSpec)

/-- 'cutroomlaw16.PesCuts', WHERE WHAT IT READS IS OF BULK AT MOST 1048576: true; the input reads as it did. -/
def pesCutsUptoRow : OpenClaim := { program := "ytojfaonlgkicfaa", sum := "9225caee9a03f2d98281b177057197056d975c6cf09f8732b510f72437ff24b3", func := "cutroom/cutroomlaw16.PesCuts", spec := "pesCuts", unfollowed := true, recurses := true, apart := false, narrowed := true }
def PesCutsUptoSaid : Prop := pesCutsUptoRow.holds Try.pinned (OpenSpec.upto pesCutsSpec)

/-- 'cutroomlaw16.PesPuts', WHERE WHAT IT READS IS OF BULK AT MOST 1048576: true; the input reads as it did. -/
def pesPutsUptoRow : OpenClaim := { program := "ytojfaonlgkicfaa", sum := "9225caee9a03f2d98281b177057197056d975c6cf09f8732b510f72437ff24b3", func := "cutroom/cutroomlaw16.PesPuts", spec := "pesPuts", unfollowed := true, recurses := true, apart := false, narrowed := true }
def PesPutsUptoSaid : Prop := pesPutsUptoRow.holds Try.pinned (OpenSpec.upto pesPutsSpec)

/-- 'cutroomlaw16.PesTakes', WHERE WHAT IT READS IS OF BULK AT MOST 1048576: true; the input reads as it did. -/
def pesTakesUptoRow : OpenClaim := { program := "ytojfaonlgkicfaa", sum := "9225caee9a03f2d98281b177057197056d975c6cf09f8732b510f72437ff24b3", func := "cutroom/cutroomlaw16.PesTakes", spec := "pesTakes", unfollowed := true, recurses := true, apart := false, narrowed := true }
def PesTakesUptoSaid : Prop := pesTakesUptoRow.holds Try.pinned (OpenSpec.upto pesTakesSpec)

/-- 'cutroomlaw16.PesTicks', WHERE WHAT IT READS IS OF BULK AT MOST 1048576: true; the input reads as it did. -/
def pesTicksUptoRow : OpenClaim := { program := "ytojfaonlgkicfaa", sum := "9225caee9a03f2d98281b177057197056d975c6cf09f8732b510f72437ff24b3", func := "cutroom/cutroomlaw16.PesTicks", spec := "pesTicks", inPlace := ["math/bits.Add64", "math/bits.Sub64"], named := ["math/bits.divideError", "math/bits.overflowError"], apart := false, narrowed := true }
def PesTicksUptoSaid : Prop := pesTicksUptoRow.holds Try.pinned (OpenSpec.upto pesTicksSpec)

/-- 'cutroomlaw16.PesLong', WHERE WHAT IT READS IS OF BULK AT MOST 1048576: true; the input reads as it did. -/
def pesLongUptoRow : OpenClaim := { program := "ytojfaonlgkicfaa", sum := "9225caee9a03f2d98281b177057197056d975c6cf09f8732b510f72437ff24b3", func := "cutroom/cutroomlaw16.PesLong", spec := "pesLong", inPlace := ["math/bits.Add64", "math/bits.Sub64"], named := ["math/bits.divideError", "math/bits.overflowError"], apart := false, narrowed := true }
def PesLongUptoSaid : Prop := pesLongUptoRow.holds Try.pinned (OpenSpec.upto pesLongSpec)

end Rows
end Go.Proofs.Ytojfaonlgkicfaa

/-
  NARROWER THAN 'FOR EVERY INPUT', by the rows' own cells (each row's printed sentence says how): TopChains: laid · TopFilm: laid · TopTelecine: laid.
  DERIVED. THE GIVEN ROWS OF THIS SEAT. 3 by the template 'for every input the law returns true; each argument reads behind the call as it read before'; 0 by the template 'total and deterministic' (their statements: YtbdhieahnneebaaGreatDoorTotals.lean).
  GIVEN WITH THE SEED: the statements are not yours to turn. If you find one false, say at which input.
  Laid BY PROGRAM, IN A SANDBOX (cutbox-rows.mjs): the forced cells as the released guide's own fill.sh prints them over the translation 1e79af9c2ac1b412… (all of the seat's roots in one cut). By AI agents, Wed Nov 11 2026. No macro, syntax, notation, axiom, sorry.
-/
import Derived.Test.YtbdhieahnneebaaGreatDoorChecked
import GoSem.Claim
import GoSem.ClaimJoined
import GoSem.ClaimMapViews
import Derived.JoinedTies
import Derived.KernelRfl
namespace Go.Proofs.YtbdhieahnneebaaGreatDoor
/- THE CELL 'sum', in the pinned program and in every row, IS THE sha256 OF THE DUMP (.gsa) THAT YtbdhieahnneebaaGreatDoorProg.lean LOADS. Nothing in Lean hashes anything: it is a label: what it is worth is what the hold of that sum in a sandbox is worth. -/
noncomputable def Tryz.pinned : Pinned := { name := "ytbdhieahnneebaagreatdoor", sum := "1e79af9c2ac1b412040307297ad2d02178d503bc6d0d939db1b01070e44cf73e", checked := Tryz.checked }
namespace Rows
def none {H : Type} : Left H := { results := [], args := [] }

/- WHAT THE LISTED PACKAGE-LEVEL VARIABLES READ AS WHEN THE CALL BEGINS. Each datum BY PROGRAM (the guide's laid-datum.mjs) off the statement by which the dump's own 'gosem.cut.vars' lays the variable. In a bare row this is a premise. The card (YtbdhieahnneebaaGreatDoorCards.lean) ties it to the program's text. -/
def laid_cutroom_quant_alternateScan {H : Type} : DataW H := .agg [.lit (.int .i64 0), .lit (.int .i64 8), .lit (.int .i64 16), .lit (.int .i64 24), .lit (.int .i64 1), .lit (.int .i64 9), .lit (.int .i64 2), .lit (.int .i64 10), .lit (.int .i64 17), .lit (.int .i64 25), .lit (.int .i64 32), .lit (.int .i64 40), .lit (.int .i64 48), .lit (.int .i64 56), .lit (.int .i64 57), .lit (.int .i64 49), .lit (.int .i64 41), .lit (.int .i64 33), .lit (.int .i64 26), .lit (.int .i64 18), .lit (.int .i64 3), .lit (.int .i64 11), .lit (.int .i64 4), .lit (.int .i64 12), .lit (.int .i64 19), .lit (.int .i64 27), .lit (.int .i64 34), .lit (.int .i64 42), .lit (.int .i64 50), .lit (.int .i64 58), .lit (.int .i64 35), .lit (.int .i64 43), .lit (.int .i64 51), .lit (.int .i64 59), .lit (.int .i64 20), .lit (.int .i64 28), .lit (.int .i64 5), .lit (.int .i64 13), .lit (.int .i64 6), .lit (.int .i64 14), .lit (.int .i64 21), .lit (.int .i64 29), .lit (.int .i64 36), .lit (.int .i64 44), .lit (.int .i64 52), .lit (.int .i64 60), .lit (.int .i64 37), .lit (.int .i64 45), .lit (.int .i64 53), .lit (.int .i64 61), .lit (.int .i64 22), .lit (.int .i64 30), .lit (.int .i64 7), .lit (.int .i64 15), .lit (.int .i64 23), .lit (.int .i64 31), .lit (.int .i64 38), .lit (.int .i64 46), .lit (.int .i64 54), .lit (.int .i64 62), .lit (.int .i64 39), .lit (.int .i64 47), .lit (.int .i64 55), .lit (.int .i64 63)]
def laid_cutroom_quant_defaultIntra {H : Type} : DataW H := .agg [.lit (.int .u8 8), .lit (.int .u8 16), .lit (.int .u8 19), .lit (.int .u8 22), .lit (.int .u8 26), .lit (.int .u8 27), .lit (.int .u8 29), .lit (.int .u8 34), .lit (.int .u8 16), .lit (.int .u8 16), .lit (.int .u8 22), .lit (.int .u8 24), .lit (.int .u8 27), .lit (.int .u8 29), .lit (.int .u8 34), .lit (.int .u8 37), .lit (.int .u8 19), .lit (.int .u8 22), .lit (.int .u8 26), .lit (.int .u8 27), .lit (.int .u8 29), .lit (.int .u8 34), .lit (.int .u8 34), .lit (.int .u8 38), .lit (.int .u8 22), .lit (.int .u8 22), .lit (.int .u8 26), .lit (.int .u8 27), .lit (.int .u8 29), .lit (.int .u8 34), .lit (.int .u8 37), .lit (.int .u8 40), .lit (.int .u8 22), .lit (.int .u8 26), .lit (.int .u8 27), .lit (.int .u8 29), .lit (.int .u8 32), .lit (.int .u8 35), .lit (.int .u8 40), .lit (.int .u8 48), .lit (.int .u8 26), .lit (.int .u8 27), .lit (.int .u8 29), .lit (.int .u8 32), .lit (.int .u8 35), .lit (.int .u8 40), .lit (.int .u8 48), .lit (.int .u8 58), .lit (.int .u8 26), .lit (.int .u8 27), .lit (.int .u8 29), .lit (.int .u8 34), .lit (.int .u8 38), .lit (.int .u8 46), .lit (.int .u8 56), .lit (.int .u8 69), .lit (.int .u8 27), .lit (.int .u8 29), .lit (.int .u8 35), .lit (.int .u8 38), .lit (.int .u8 46), .lit (.int .u8 56), .lit (.int .u8 69), .lit (.int .u8 83)]

/-- 'cutroomtop.TopChains': WHATEVER THE INPUT: true; the input reads as it did. -/
def topChainsSpec : ChangeSpec := { name := "topChains", fn := fun _ => fun
  | [d1, d2] => { results := [.lit (.bool true)], args := [d1, d2] }
  | _ => none }
def topChainsRow : OpenClaim := { program := "ytbdhieahnneebaagreatdoor", sum := "1e79af9c2ac1b412040307297ad2d02178d503bc6d0d939db1b01070e44cf73e", func := "cutroom/cutroomtop.TopChains", spec := "topChains", unfollowed := true, recurses := true, named := ["cutroom/quant.alternateScan", "cutroom/quant.defaultIntra"], apart := false, laid := [("cutroom/quant.alternateScan", laid_cutroom_quant_alternateScan), ("cutroom/quant.defaultIntra", laid_cutroom_quant_defaultIntra)] }
def TopChainsSaid : Prop := topChainsRow.holds Tryz.pinned (OpenSpec.ofChange topChainsSpec)

/-- ITS FALSE NEIGHBOUR: 'it returns false'. Refute it at one input. -/
def topChainsWrong : ChangeSpec := { name := "topChains", fn := fun _ => fun
  | [d1, d2] => { results := [.lit (.bool false)], args := [d1, d2] }
  | _ => none }
def TopChainsWrongFalsely : Prop := topChainsRow.holds Tryz.pinned (OpenSpec.ofChange topChainsWrong)

/-- 'cutroomtop.TopFilm': WHATEVER THE INPUT: true; the input reads as it did. -/
def topFilmSpec : ChangeSpec := { name := "topFilm", fn := fun _ => fun
  | [d] => { results := [.lit (.bool true)], args := [d] }
  | _ => none }
def topFilmRow : OpenClaim := { program := "ytbdhieahnneebaagreatdoor", sum := "1e79af9c2ac1b412040307297ad2d02178d503bc6d0d939db1b01070e44cf73e", func := "cutroom/cutroomtop.TopFilm", spec := "topFilm", unfollowed := true, recurses := true, named := ["cutroom/quant.alternateScan", "cutroom/quant.defaultIntra"], apart := false, laid := [("cutroom/quant.alternateScan", laid_cutroom_quant_alternateScan), ("cutroom/quant.defaultIntra", laid_cutroom_quant_defaultIntra)] }
def TopFilmSaid : Prop := topFilmRow.holds Tryz.pinned (OpenSpec.ofChange topFilmSpec)

/-- ITS FALSE NEIGHBOUR: 'it returns false'. Refute it at one input. -/
def topFilmWrong : ChangeSpec := { name := "topFilm", fn := fun _ => fun
  | [d] => { results := [.lit (.bool false)], args := [d] }
  | _ => none }
def TopFilmWrongFalsely : Prop := topFilmRow.holds Tryz.pinned (OpenSpec.ofChange topFilmWrong)

/-- 'cutroomtop.TopTelecine': WHATEVER THE INPUT: true; the input reads as it did. -/
def topTelecineSpec : ChangeSpec := { name := "topTelecine", fn := fun _ => fun
  | [d1, d2, d3] => { results := [.lit (.bool true)], args := [d1, d2, d3] }
  | _ => none }
def topTelecineRow : OpenClaim := { program := "ytbdhieahnneebaagreatdoor", sum := "1e79af9c2ac1b412040307297ad2d02178d503bc6d0d939db1b01070e44cf73e", func := "cutroom/cutroomtop.TopTelecine", spec := "topTelecine", unfollowed := true, recurses := true, named := ["math/bits.divideError", "math/bits.overflowError", "cutroom/quant.alternateScan", "cutroom/quant.defaultIntra"], apart := false, laid := [("cutroom/quant.alternateScan", laid_cutroom_quant_alternateScan), ("cutroom/quant.defaultIntra", laid_cutroom_quant_defaultIntra)] }
def TopTelecineSaid : Prop := topTelecineRow.holds Tryz.pinned (OpenSpec.ofChange topTelecineSpec)

/-- ITS FALSE NEIGHBOUR: 'it returns false'. Refute it at one input. -/
def topTelecineWrong : ChangeSpec := { name := "topTelecine", fn := fun _ => fun
  | [d1, d2, d3] => { results := [.lit (.bool false)], args := [d1, d2, d3] }
  | _ => none }
def TopTelecineWrongFalsely : Prop := topTelecineRow.holds Tryz.pinned (OpenSpec.ofChange topTelecineWrong)

/- THE SECOND FORM. 'bulk': how many values and letters a reading holds, each counted each time it is reached (what is shared counts as often as it is met; a slice's spare places count too). A statement '..UptoSaid' is the law's where the arguments, and the package variables that the reading takes, are together of bulk at most 1048576: NARROWER than '..Said'. Prove '..Said' where nothing that the law and all that it calls make is longer than what came in: it says more and counts as full. Else prove '..UptoSaid'. A law counts once. -/
mutual
def uptoBulk {H : Type} : DataW H → Nat
  | .lit (.string bytes) => bytes.length + 1
  | .lit _ => 1
  | .nil => 1
  | .ptr d => uptoBulk d + 1
  | .slice elems spare => uptoBulkAll elems + uptoBulkAll spare + 1
  | .agg parts => uptoBulkAll parts + 1
  | .iface _ d => uptoBulk d + 1
  | .map entries => uptoBulkEntries entries + 1
  | .held _ => 1
def uptoBulkAll {H : Type} : List (DataW H) → Nat
  | [] => 0
  | d :: r => uptoBulk d + uptoBulkAll r
def uptoBulkEntries {H : Type} : List (Lit × DataW H) → Nat
  | [] => 0
  | x :: r => uptoBulkEntry x + uptoBulkEntries r
def uptoBulkEntry {H : Type} : Lit × DataW H → Nat
  | (.string bytes, d) => bytes.length + uptoBulk d + 1
  | (_, d) => uptoBulk d + 1
 end
def uptoSmall : (H : Type) → List (DataW H) → Bool := fun _ ds => decide (uptoBulkAll ds ≤ 1048576)
def OpenSpec.upto (s : _root_.Go.ChangeSpec) : _root_.Go.OpenSpec := { _root_.Go.OpenSpec.ofChange s with cond := some uptoSmall }

/-- 'cutroomtop.TopChains', WHERE WHAT IT READS IS OF BULK AT MOST 1048576: true; the input reads as it did. -/
def topChainsUptoRow : OpenClaim := { program := "ytbdhieahnneebaagreatdoor", sum := "1e79af9c2ac1b412040307297ad2d02178d503bc6d0d939db1b01070e44cf73e", func := "cutroom/cutroomtop.TopChains", spec := "topChains", unfollowed := true, recurses := true, named := ["cutroom/quant.alternateScan", "cutroom/quant.defaultIntra"], apart := false, laid := [("cutroom/quant.alternateScan", laid_cutroom_quant_alternateScan), ("cutroom/quant.defaultIntra", laid_cutroom_quant_defaultIntra)], narrowed := true }
def TopChainsUptoSaid : Prop := topChainsUptoRow.holds Tryz.pinned (OpenSpec.upto topChainsSpec)

/-- 'cutroomtop.TopFilm', WHERE WHAT IT READS IS OF BULK AT MOST 1048576: true; the input reads as it did. -/
def topFilmUptoRow : OpenClaim := { program := "ytbdhieahnneebaagreatdoor", sum := "1e79af9c2ac1b412040307297ad2d02178d503bc6d0d939db1b01070e44cf73e", func := "cutroom/cutroomtop.TopFilm", spec := "topFilm", unfollowed := true, recurses := true, named := ["cutroom/quant.alternateScan", "cutroom/quant.defaultIntra"], apart := false, laid := [("cutroom/quant.alternateScan", laid_cutroom_quant_alternateScan), ("cutroom/quant.defaultIntra", laid_cutroom_quant_defaultIntra)], narrowed := true }
def TopFilmUptoSaid : Prop := topFilmUptoRow.holds Tryz.pinned (OpenSpec.upto topFilmSpec)

/-- 'cutroomtop.TopTelecine', WHERE WHAT IT READS IS OF BULK AT MOST 1048576: true; the input reads as it did. -/
def topTelecineUptoRow : OpenClaim := { program := "ytbdhieahnneebaagreatdoor", sum := "1e79af9c2ac1b412040307297ad2d02178d503bc6d0d939db1b01070e44cf73e", func := "cutroom/cutroomtop.TopTelecine", spec := "topTelecine", unfollowed := true, recurses := true, named := ["math/bits.divideError", "math/bits.overflowError", "cutroom/quant.alternateScan", "cutroom/quant.defaultIntra"], apart := false, laid := [("cutroom/quant.alternateScan", laid_cutroom_quant_alternateScan), ("cutroom/quant.defaultIntra", laid_cutroom_quant_defaultIntra)], narrowed := true }
def TopTelecineUptoSaid : Prop := topTelecineUptoRow.holds Tryz.pinned (OpenSpec.upto topTelecineSpec)

end Rows
end Go.Proofs.YtbdhieahnneebaaGreatDoor

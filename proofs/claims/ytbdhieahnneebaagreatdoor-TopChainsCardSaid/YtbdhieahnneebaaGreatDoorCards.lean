/-
  DERIVED. GIVEN WITH THE SEED: THE CARDS: each row of YtbdhieahnneebaaGreatDoorRows.lean that lists a variable, with what it lists TIED to the program's text (the seventh form; the later family's looks); each row that meets fmt, with fmt's text TOLD by the authors' own Lean function (tested against real Go, not proved from fmt's source: count such statements apart). THE CARD IS WHAT COUNTS. Prove the row's statement (the work); the ties are given (YtbdhieahnneebaaGreatDoorTie.lean); close each card by the builder's one call (the guide's Derived/Test/ToyasCard.lean, 'card_holds'). Laid BY PROGRAM, IN A SANDBOX (cutbox-door.mjs). By AI agents, Wed Nov 11 2026. No macro, syntax, notation, axiom, sorry.
-/
import Derived.Test.YtbdhieahnneebaaGreatDoorRows
import GoSem.ClaimSeven
namespace Go.Proofs.YtbdhieahnneebaaGreatDoor
namespace Rows

/-- THE TIED CARD OF 'cutroomtop.TopChains'. -/
def topChainsCard : Claim7 := { stood := { row := topChainsRow, standIns := [], harness := (true, "a45df2f5511ce1a2bbc722363321cac49e466667bf0364541f7867aa7087e208"), looks := true }, kinds := [], alts := [], laidByText := true, laidKinds := [.data, .data], laidTests := true, laidLooks := .later }
def TopChainsCardSaid : Prop := Claim7.holds Tryz.pinned (.plain (OpenSpec.ofChange topChainsSpec)) topChainsCard

/-- THE TIED CARD OF 'cutroomtop.TopFilm'. -/
def topFilmCard : Claim7 := { stood := { row := topFilmRow, standIns := [], harness := (true, "a45df2f5511ce1a2bbc722363321cac49e466667bf0364541f7867aa7087e208"), looks := true }, kinds := [], alts := [], laidByText := true, laidKinds := [.data, .data], laidTests := true, laidLooks := .later }
def TopFilmCardSaid : Prop := Claim7.holds Tryz.pinned (.plain (OpenSpec.ofChange topFilmSpec)) topFilmCard

/-- THE TIED CARD OF 'cutroomtop.TopTelecine'. -/
def topTelecineCard : Claim7 := { stood := { row := topTelecineRow, standIns := [], harness := (true, "a45df2f5511ce1a2bbc722363321cac49e466667bf0364541f7867aa7087e208"), looks := true }, kinds := [], alts := [], laidByText := true, laidKinds := [.data, .data], laidTests := true, laidLooks := .later }
def TopTelecineCardSaid : Prop := Claim7.holds Tryz.pinned (.plain (OpenSpec.ofChange topTelecineSpec)) topTelecineCard

/-- THE SECOND FORM's CARD OF 'cutroomtop.TopChains'. -/
def topChainsUptoCard : Claim7 := { stood := { row := topChainsUptoRow, standIns := [], harness := (true, "a45df2f5511ce1a2bbc722363321cac49e466667bf0364541f7867aa7087e208"), looks := true }, kinds := [], alts := [], laidByText := true, laidKinds := [.data, .data], laidTests := true, laidLooks := .later }
def TopChainsUptoCardSaid : Prop := Claim7.holds Tryz.pinned (.plain (OpenSpec.upto topChainsSpec)) topChainsUptoCard

/-- THE SECOND FORM's CARD OF 'cutroomtop.TopFilm'. -/
def topFilmUptoCard : Claim7 := { stood := { row := topFilmUptoRow, standIns := [], harness := (true, "a45df2f5511ce1a2bbc722363321cac49e466667bf0364541f7867aa7087e208"), looks := true }, kinds := [], alts := [], laidByText := true, laidKinds := [.data, .data], laidTests := true, laidLooks := .later }
def TopFilmUptoCardSaid : Prop := Claim7.holds Tryz.pinned (.plain (OpenSpec.upto topFilmSpec)) topFilmUptoCard

/-- THE SECOND FORM's CARD OF 'cutroomtop.TopTelecine'. -/
def topTelecineUptoCard : Claim7 := { stood := { row := topTelecineUptoRow, standIns := [], harness := (true, "a45df2f5511ce1a2bbc722363321cac49e466667bf0364541f7867aa7087e208"), looks := true }, kinds := [], alts := [], laidByText := true, laidKinds := [.data, .data], laidTests := true, laidLooks := .later }
def TopTelecineUptoCardSaid : Prop := Claim7.holds Tryz.pinned (.plain (OpenSpec.upto topTelecineSpec)) topTelecineUptoCard
end Rows
end Go.Proofs.YtbdhieahnneebaaGreatDoor

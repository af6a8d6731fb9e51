/-
  DERIVED. GIVEN WITH THE SEED: THE CARDS: each row of YteikiojmcipkmaaGreatDoorRows.lean that lists a variable, with what it lists TIED to the program's text (the seventh form; the later family's looks); each row that meets fmt, with fmt's text TOLD by the authors' own Lean function (tested against real Go, not proved from fmt's source: count such statements apart). THE CARD IS WHAT COUNTS. Prove the row's statement (the work); the ties are given (YteikiojmcipkmaaGreatDoorTie.lean); close each card by the builder's one call (the guide's Derived/Test/ToyasCard.lean, 'card_holds'). Laid BY PROGRAM, IN A SANDBOX (cutbox-door.mjs). By AI agents, Wed Nov 11 2026. No macro, syntax, notation, axiom, sorry.
-/
import Derived.Test.YteikiojmcipkmaaGreatDoorRows
import GoSem.ClaimSeven
namespace Go.Proofs.YteikiojmcipkmaaGreatDoor
namespace Rows

/-- THE TIED CARD OF 'paxtartop.TopSourceFailure'. -/
def topSourceFailureCard : Claim7 := { stood := { row := topSourceFailureRow, standIns := [], harness := (true, "15ecc9c79e249a6444b90bbcf19abc3e3708cfe1e085c627308e9cb82db31089"), looks := true }, kinds := [], alts := [], laidByText := true, laidKinds := [.data, .data, .data, .sentinel, .sentinel, .widerDeep, .data, .wider, .data, .data, .wider, .data, .wider, .data, .data, .data, .data, .data, .widerDeep], laidTests := true, laidLooks := .later }
def TopSourceFailureCardSaid : Prop := Claim7.holds Tryz.pinned (.plain (OpenSpec.ofChange topSourceFailureSpec)) topSourceFailureCard

/-- THE TIED CARD OF 'paxtartop.TopProperPrefix'. -/
def topProperPrefixCard : Claim7 := { stood := { row := topProperPrefixRow, standIns := [], harness := (true, "15ecc9c79e249a6444b90bbcf19abc3e3708cfe1e085c627308e9cb82db31089"), looks := true }, kinds := [], alts := [], laidByText := true, laidKinds := [.data, .data, .data, .sentinel, .sentinel, .widerDeep, .data, .wider, .data, .data, .wider, .data, .wider, .data, .data, .data, .data, .data, .widerDeep], laidTests := true, laidLooks := .later }
def TopProperPrefixCardSaid : Prop := Claim7.holds Tryz.pinned (.plain (OpenSpec.ofChange topProperPrefixSpec)) topProperPrefixCard

/-- THE TIED CARD OF 'paxtartop.TopMutation'. -/
def topMutationCard : Claim7 := { stood := { row := topMutationRow, standIns := [], harness := (true, "15ecc9c79e249a6444b90bbcf19abc3e3708cfe1e085c627308e9cb82db31089"), looks := true }, kinds := [], alts := [], laidByText := true, laidKinds := [.data, .data, .data, .sentinel, .sentinel, .widerDeep, .data, .wider, .data, .data, .wider, .data, .wider, .data, .data, .data, .data, .data, .widerDeep], laidTests := true, laidLooks := .later }
def TopMutationCardSaid : Prop := Claim7.holds Tryz.pinned (.plain (OpenSpec.ofChange topMutationSpec)) topMutationCard

/-- THE SECOND FORM's CARD OF 'paxtartop.TopSourceFailure'. -/
def topSourceFailureUptoCard : Claim7 := { stood := { row := topSourceFailureUptoRow, standIns := [], harness := (true, "15ecc9c79e249a6444b90bbcf19abc3e3708cfe1e085c627308e9cb82db31089"), looks := true }, kinds := [], alts := [], laidByText := true, laidKinds := [.data, .data, .data, .sentinel, .sentinel, .widerDeep, .data, .wider, .data, .data, .wider, .data, .wider, .data, .data, .data, .data, .data, .widerDeep], laidTests := true, laidLooks := .later }
def TopSourceFailureUptoCardSaid : Prop := Claim7.holds Tryz.pinned (.plain (OpenSpec.upto topSourceFailureSpec)) topSourceFailureUptoCard

/-- THE SECOND FORM's CARD OF 'paxtartop.TopProperPrefix'. -/
def topProperPrefixUptoCard : Claim7 := { stood := { row := topProperPrefixUptoRow, standIns := [], harness := (true, "15ecc9c79e249a6444b90bbcf19abc3e3708cfe1e085c627308e9cb82db31089"), looks := true }, kinds := [], alts := [], laidByText := true, laidKinds := [.data, .data, .data, .sentinel, .sentinel, .widerDeep, .data, .wider, .data, .data, .wider, .data, .wider, .data, .data, .data, .data, .data, .widerDeep], laidTests := true, laidLooks := .later }
def TopProperPrefixUptoCardSaid : Prop := Claim7.holds Tryz.pinned (.plain (OpenSpec.upto topProperPrefixSpec)) topProperPrefixUptoCard

/-- THE SECOND FORM's CARD OF 'paxtartop.TopMutation'. -/
def topMutationUptoCard : Claim7 := { stood := { row := topMutationUptoRow, standIns := [], harness := (true, "15ecc9c79e249a6444b90bbcf19abc3e3708cfe1e085c627308e9cb82db31089"), looks := true }, kinds := [], alts := [], laidByText := true, laidKinds := [.data, .data, .data, .sentinel, .sentinel, .widerDeep, .data, .wider, .data, .data, .wider, .data, .wider, .data, .data, .data, .data, .data, .widerDeep], laidTests := true, laidLooks := .later }
def TopMutationUptoCardSaid : Prop := Claim7.holds Tryz.pinned (.plain (OpenSpec.upto topMutationSpec)) topMutationUptoCard
end Rows
end Go.Proofs.YteikiojmcipkmaaGreatDoor

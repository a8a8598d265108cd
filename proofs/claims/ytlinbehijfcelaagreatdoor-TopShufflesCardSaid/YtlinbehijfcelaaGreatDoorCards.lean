/-
  DERIVED. GIVEN WITH THE SEED: THE CARDS: each row of YtlinbehijfcelaaGreatDoorRows.lean that lists a variable, with what it lists TIED to the program's text (the seventh form; the later family's looks); each row that meets fmt, with fmt's text TOLD by the authors' own Lean function (tested against real Go, not proved from fmt's source: count such statements apart). THE CARD IS WHAT COUNTS. Prove the row's statement (the work); the ties are given (YtlinbehijfcelaaGreatDoorTie.lean); close each card by the builder's one call (the guide's Derived/Test/ToyasCard.lean, 'card_holds'). Laid BY PROGRAM, IN A SANDBOX (cutbox-door.mjs). By AI agents, Wed Nov 11 2026. No macro, syntax, notation, axiom, sorry.
-/
import Derived.Test.YtlinbehijfcelaaGreatDoorRows
import GoSem.ClaimSeven
namespace Go.Proofs.YtlinbehijfcelaaGreatDoor
namespace Rows

/-- THE TIED CARD OF 'joinerytop.TopShuffles'. -/
def topShufflesCard : Claim7 := { stood := { row := topShufflesRow, standIns := [], harness := (true, "b6de1c6f095477d00eaf5f086792a21800130c680ac54b173d0600cabd9a73ba"), looks := true }, kinds := [], alts := [], laidByText := true, laidKinds := [.data, .data], laidTests := true, laidLooks := .later }
def TopShufflesCardSaid : Prop := Claim7.holds Tryz.pinned (.plain (OpenSpec.ofChange topShufflesSpec)) topShufflesCard

/-- THE TIED CARD OF 'joinerytop.TopChain'. -/
def topChainCard : Claim7 := { stood := { row := topChainRow, standIns := [], harness := (true, "b6de1c6f095477d00eaf5f086792a21800130c680ac54b173d0600cabd9a73ba"), looks := true }, kinds := [], alts := [], laidByText := true, laidKinds := [.data, .data], laidTests := true, laidLooks := .later }
def TopChainCardSaid : Prop := Claim7.holds Tryz.pinned (.plain (OpenSpec.ofChange topChainSpec)) topChainCard

/-- THE SECOND FORM's CARD OF 'joinerytop.TopShuffles'. -/
def topShufflesUptoCard : Claim7 := { stood := { row := topShufflesUptoRow, standIns := [], harness := (true, "b6de1c6f095477d00eaf5f086792a21800130c680ac54b173d0600cabd9a73ba"), looks := true }, kinds := [], alts := [], laidByText := true, laidKinds := [.data, .data], laidTests := true, laidLooks := .later }
def TopShufflesUptoCardSaid : Prop := Claim7.holds Tryz.pinned (.plain (OpenSpec.upto topShufflesSpec)) topShufflesUptoCard

/-- THE SECOND FORM's CARD OF 'joinerytop.TopChain'. -/
def topChainUptoCard : Claim7 := { stood := { row := topChainUptoRow, standIns := [], harness := (true, "b6de1c6f095477d00eaf5f086792a21800130c680ac54b173d0600cabd9a73ba"), looks := true }, kinds := [], alts := [], laidByText := true, laidKinds := [.data, .data], laidTests := true, laidLooks := .later }
def TopChainUptoCardSaid : Prop := Claim7.holds Tryz.pinned (.plain (OpenSpec.upto topChainSpec)) topChainUptoCard
end Rows
end Go.Proofs.YtlinbehijfcelaaGreatDoor

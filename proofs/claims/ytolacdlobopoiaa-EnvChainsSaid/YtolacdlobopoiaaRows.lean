/-
  No cell of these rows narrows 'for every input' (looked for: loops, veiled, ifaces, maps, wideKeys, modest, calm, conditions, laid).
  DERIVED. THE GIVEN ROWS OF THIS SEAT. 17 by the template 'for every input the law returns true; each argument reads behind the call as it read before'; 0 by the template 'total and deterministic' (their statements: YtolacdlobopoiaaTotals.lean).
  GIVEN WITH THE SEED: the statements are not yours to turn. If you find one false, say at which input.
  Laid BY PROGRAM, IN A SANDBOX (cutbox-rows.mjs): the forced cells as the released guide's own fill.sh prints them over the translation 250c786cc1cf37d3… (all of the seat's roots in one cut). By AI agents, Wed Nov 11 2026. No macro, syntax, notation, axiom, sorry.
-/
import Derived.Test.YtolacdlobopoiaaChecked
import GoSem.Claim
import GoSem.ClaimJoined
import GoSem.ClaimMapViews
import Derived.JoinedTies
import Derived.KernelRfl
namespace Go.Proofs.Ytolacdlobopoiaa
/- THE CELL 'sum', in the pinned program and in every row, IS THE sha256 OF THE DUMP (.gsa) THAT YtolacdlobopoiaaProg.lean LOADS. Nothing in Lean hashes anything: it is a label: what it is worth is what the hold of that sum in a sandbox is worth. -/
noncomputable def Try.pinned : Pinned := { name := "ytolacdlobopoiaa", sum := "250c786cc1cf37d38795b014e18a0b17d2a6ce31ea467d2e9fba5501c07d2bde", checked := Try.checked }
namespace Rows
def none {H : Type} : Left H := { results := [], args := [] }

/-- 'joinerylaw02.LocTexts': WHATEVER THE INPUT: true; the input reads as it did. -/
def locTextsSpec : ChangeSpec := { name := "locTexts", fn := fun _ => fun
  | [d] => { results := [.lit (.bool true)], args := [d] }
  | _ => none }
def locTextsRow : OpenClaim := { program := "ytolacdlobopoiaa", sum := "250c786cc1cf37d38795b014e18a0b17d2a6ce31ea467d2e9fba5501c07d2bde", func := "joinery/joinerylaw02.LocTexts", spec := "locTexts", recurses := true, apart := false }
def LocTextsSaid : Prop := locTextsRow.holds Try.pinned (OpenSpec.ofChange locTextsSpec)

/-- ITS FALSE NEIGHBOUR: 'it returns false'. Refute it at one input. -/
def locTextsWrong : ChangeSpec := { name := "locTexts", fn := fun _ => fun
  | [d] => { results := [.lit (.bool false)], args := [d] }
  | _ => none }
def LocTextsWrongFalsely : Prop := locTextsRow.holds Try.pinned (OpenSpec.ofChange locTextsWrong)

/-- 'joinerylaw02.LocParses': WHATEVER THE INPUT: true; the input reads as it did. -/
def locParsesSpec : ChangeSpec := { name := "locParses", fn := fun _ => fun
  | [d] => { results := [.lit (.bool true)], args := [d] }
  | _ => none }
def locParsesRow : OpenClaim := { program := "ytolacdlobopoiaa", sum := "250c786cc1cf37d38795b014e18a0b17d2a6ce31ea467d2e9fba5501c07d2bde", func := "joinery/joinerylaw02.LocParses", spec := "locParses", recurses := true, apart := false }
def LocParsesSaid : Prop := locParsesRow.holds Try.pinned (OpenSpec.ofChange locParsesSpec)

/-- ITS FALSE NEIGHBOUR: 'it returns false'. Refute it at one input. -/
def locParsesWrong : ChangeSpec := { name := "locParses", fn := fun _ => fun
  | [d] => { results := [.lit (.bool false)], args := [d] }
  | _ => none }
def LocParsesWrongFalsely : Prop := locParsesRow.holds Try.pinned (OpenSpec.ofChange locParsesWrong)

/-- 'joinerylaw02.LocBack': WHATEVER THE INPUT: true; the input reads as it did. -/
def locBackSpec : ChangeSpec := { name := "locBack", fn := fun _ => fun
  | [d1, d2] => { results := [.lit (.bool true)], args := [d1, d2] }
  | _ => none }
def locBackRow : OpenClaim := { program := "ytolacdlobopoiaa", sum := "250c786cc1cf37d38795b014e18a0b17d2a6ce31ea467d2e9fba5501c07d2bde", func := "joinery/joinerylaw02.LocBack", spec := "locBack", apart := false }
def LocBackSaid : Prop := locBackRow.holds Try.pinned (OpenSpec.ofChange locBackSpec)

/-- ITS FALSE NEIGHBOUR: 'it returns false'. Refute it at one input. -/
def locBackWrong : ChangeSpec := { name := "locBack", fn := fun _ => fun
  | [d1, d2] => { results := [.lit (.bool false)], args := [d1, d2] }
  | _ => none }
def LocBackWrongFalsely : Prop := locBackRow.holds Try.pinned (OpenSpec.ofChange locBackWrong)

/-- 'joinerylaw02.LocApart': WHATEVER THE INPUT: true; the input reads as it did. -/
def locApartSpec : ChangeSpec := { name := "locApart", fn := fun _ => fun
  | [d1, d2] => { results := [.lit (.bool true)], args := [d1, d2] }
  | _ => none }
def locApartRow : OpenClaim := { program := "ytolacdlobopoiaa", sum := "250c786cc1cf37d38795b014e18a0b17d2a6ce31ea467d2e9fba5501c07d2bde", func := "joinery/joinerylaw02.LocApart", spec := "locApart", apart := false }
def LocApartSaid : Prop := locApartRow.holds Try.pinned (OpenSpec.ofChange locApartSpec)

/-- ITS FALSE NEIGHBOUR: 'it returns false'. Refute it at one input. -/
def locApartWrong : ChangeSpec := { name := "locApart", fn := fun _ => fun
  | [d1, d2] => { results := [.lit (.bool false)], args := [d1, d2] }
  | _ => none }
def LocApartWrongFalsely : Prop := locApartRow.holds Try.pinned (OpenSpec.ofChange locApartWrong)

/-- 'joinerylaw02.LocFew': WHATEVER THE INPUT: true; the input reads as it did. -/
def locFewSpec : ChangeSpec := { name := "locFew", fn := fun _ => fun
  | [d] => { results := [.lit (.bool true)], args := [d] }
  | _ => none }
def locFewRow : OpenClaim := { program := "ytolacdlobopoiaa", sum := "250c786cc1cf37d38795b014e18a0b17d2a6ce31ea467d2e9fba5501c07d2bde", func := "joinery/joinerylaw02.LocFew", spec := "locFew", apart := false }
def LocFewSaid : Prop := locFewRow.holds Try.pinned (OpenSpec.ofChange locFewSpec)

/-- ITS FALSE NEIGHBOUR: 'it returns false'. Refute it at one input. -/
def locFewWrong : ChangeSpec := { name := "locFew", fn := fun _ => fun
  | [d] => { results := [.lit (.bool false)], args := [d] }
  | _ => none }
def LocFewWrongFalsely : Prop := locFewRow.holds Try.pinned (OpenSpec.ofChange locFewWrong)

/-- 'joinerylaw01.NumDoes': WHATEVER THE INPUT: true; the input reads as it did. -/
def numDoesSpec : ChangeSpec := { name := "numDoes", fn := fun _ => fun
  | [d1, d2, d3] => { results := [.lit (.bool true)], args := [d1, d2, d3] }
  | _ => none }
def numDoesRow : OpenClaim := { program := "ytolacdlobopoiaa", sum := "250c786cc1cf37d38795b014e18a0b17d2a6ce31ea467d2e9fba5501c07d2bde", func := "joinery/joinerylaw01.NumDoes", spec := "numDoes", unfollowed := true, recurses := true, apart := false }
def NumDoesSaid : Prop := numDoesRow.holds Try.pinned (OpenSpec.ofChange numDoesSpec)

/-- ITS FALSE NEIGHBOUR: 'it returns false'. Refute it at one input. -/
def numDoesWrong : ChangeSpec := { name := "numDoes", fn := fun _ => fun
  | [d1, d2, d3] => { results := [.lit (.bool false)], args := [d1, d2, d3] }
  | _ => none }
def NumDoesWrongFalsely : Prop := numDoesRow.holds Try.pinned (OpenSpec.ofChange numDoesWrong)

/-- 'joinerylaw01.NumTexts': WHATEVER THE INPUT: true; the input reads as it did. -/
def numTextsSpec : ChangeSpec := { name := "numTexts", fn := fun _ => fun
  | [d1, d2] => { results := [.lit (.bool true)], args := [d1, d2] }
  | _ => none }
def numTextsRow : OpenClaim := { program := "ytolacdlobopoiaa", sum := "250c786cc1cf37d38795b014e18a0b17d2a6ce31ea467d2e9fba5501c07d2bde", func := "joinery/joinerylaw01.NumTexts", spec := "numTexts", unfollowed := true, recurses := true, apart := false }
def NumTextsSaid : Prop := numTextsRow.holds Try.pinned (OpenSpec.ofChange numTextsSpec)

/-- ITS FALSE NEIGHBOUR: 'it returns false'. Refute it at one input. -/
def numTextsWrong : ChangeSpec := { name := "numTexts", fn := fun _ => fun
  | [d1, d2] => { results := [.lit (.bool false)], args := [d1, d2] }
  | _ => none }
def NumTextsWrongFalsely : Prop := numTextsRow.holds Try.pinned (OpenSpec.ofChange numTextsWrong)

/-- 'joinerylaw01.NumBack': WHATEVER THE INPUT: true; the input reads as it did. -/
def numBackSpec : ChangeSpec := { name := "numBack", fn := fun _ => fun
  | [d1, d2] => { results := [.lit (.bool true)], args := [d1, d2] }
  | _ => none }
def numBackRow : OpenClaim := { program := "ytolacdlobopoiaa", sum := "250c786cc1cf37d38795b014e18a0b17d2a6ce31ea467d2e9fba5501c07d2bde", func := "joinery/joinerylaw01.NumBack", spec := "numBack", unfollowed := true, recurses := true, apart := false }
def NumBackSaid : Prop := numBackRow.holds Try.pinned (OpenSpec.ofChange numBackSpec)

/-- ITS FALSE NEIGHBOUR: 'it returns false'. Refute it at one input. -/
def numBackWrong : ChangeSpec := { name := "numBack", fn := fun _ => fun
  | [d1, d2] => { results := [.lit (.bool false)], args := [d1, d2] }
  | _ => none }
def NumBackWrongFalsely : Prop := numBackRow.holds Try.pinned (OpenSpec.ofChange numBackWrong)

/-- 'joinerylaw01.NumLaws': WHATEVER THE INPUT: true; the input reads as it did. -/
def numLawsSpec : ChangeSpec := { name := "numLaws", fn := fun _ => fun
  | [d1, d2] => { results := [.lit (.bool true)], args := [d1, d2] }
  | _ => none }
def numLawsRow : OpenClaim := { program := "ytolacdlobopoiaa", sum := "250c786cc1cf37d38795b014e18a0b17d2a6ce31ea467d2e9fba5501c07d2bde", func := "joinery/joinerylaw01.NumLaws", spec := "numLaws", unfollowed := true, recurses := true, apart := false }
def NumLawsSaid : Prop := numLawsRow.holds Try.pinned (OpenSpec.ofChange numLawsSpec)

/-- ITS FALSE NEIGHBOUR: 'it returns false'. Refute it at one input. -/
def numLawsWrong : ChangeSpec := { name := "numLaws", fn := fun _ => fun
  | [d1, d2] => { results := [.lit (.bool false)], args := [d1, d2] }
  | _ => none }
def NumLawsWrongFalsely : Prop := numLawsRow.holds Try.pinned (OpenSpec.ofChange numLawsWrong)

/-- 'joinerylaw01.NumOrders': WHATEVER THE INPUT: true; the input reads as it did. -/
def numOrdersSpec : ChangeSpec := { name := "numOrders", fn := fun _ => fun
  | [d1, d2, d3] => { results := [.lit (.bool true)], args := [d1, d2, d3] }
  | _ => none }
def numOrdersRow : OpenClaim := { program := "ytolacdlobopoiaa", sum := "250c786cc1cf37d38795b014e18a0b17d2a6ce31ea467d2e9fba5501c07d2bde", func := "joinery/joinerylaw01.NumOrders", spec := "numOrders", unfollowed := true, recurses := true, apart := false }
def NumOrdersSaid : Prop := numOrdersRow.holds Try.pinned (OpenSpec.ofChange numOrdersSpec)

/-- ITS FALSE NEIGHBOUR: 'it returns false'. Refute it at one input. -/
def numOrdersWrong : ChangeSpec := { name := "numOrders", fn := fun _ => fun
  | [d1, d2, d3] => { results := [.lit (.bool false)], args := [d1, d2, d3] }
  | _ => none }
def NumOrdersWrongFalsely : Prop := numOrdersRow.holds Try.pinned (OpenSpec.ofChange numOrdersWrong)

/-- 'joinerylaw01.NumDivides': WHATEVER THE INPUT: true; the input reads as it did. -/
def numDividesSpec : ChangeSpec := { name := "numDivides", fn := fun _ => fun
  | [d1, d2] => { results := [.lit (.bool true)], args := [d1, d2] }
  | _ => none }
def numDividesRow : OpenClaim := { program := "ytolacdlobopoiaa", sum := "250c786cc1cf37d38795b014e18a0b17d2a6ce31ea467d2e9fba5501c07d2bde", func := "joinery/joinerylaw01.NumDivides", spec := "numDivides", unfollowed := true, recurses := true, apart := false }
def NumDividesSaid : Prop := numDividesRow.holds Try.pinned (OpenSpec.ofChange numDividesSpec)

/-- ITS FALSE NEIGHBOUR: 'it returns false'. Refute it at one input. -/
def numDividesWrong : ChangeSpec := { name := "numDivides", fn := fun _ => fun
  | [d1, d2] => { results := [.lit (.bool false)], args := [d1, d2] }
  | _ => none }
def NumDividesWrongFalsely : Prop := numDividesRow.holds Try.pinned (OpenSpec.ofChange numDividesWrong)

/-- 'joinerylaw01.NumBits': WHATEVER THE INPUT: true; the input reads as it did. -/
def numBitsSpec : ChangeSpec := { name := "numBits", fn := fun _ => fun
  | [d1, d2] => { results := [.lit (.bool true)], args := [d1, d2] }
  | _ => none }
def numBitsRow : OpenClaim := { program := "ytolacdlobopoiaa", sum := "250c786cc1cf37d38795b014e18a0b17d2a6ce31ea467d2e9fba5501c07d2bde", func := "joinery/joinerylaw01.NumBits", spec := "numBits", unfollowed := true, recurses := true, apart := false }
def NumBitsSaid : Prop := numBitsRow.holds Try.pinned (OpenSpec.ofChange numBitsSpec)

/-- ITS FALSE NEIGHBOUR: 'it returns false'. Refute it at one input. -/
def numBitsWrong : ChangeSpec := { name := "numBits", fn := fun _ => fun
  | [d1, d2] => { results := [.lit (.bool false)], args := [d1, d2] }
  | _ => none }
def NumBitsWrongFalsely : Prop := numBitsRow.holds Try.pinned (OpenSpec.ofChange numBitsWrong)

/-- 'joinerylaw05.EnvTexts': WHATEVER THE INPUT: true; the input reads as it did. -/
def envTextsSpec : ChangeSpec := { name := "envTexts", fn := fun _ => fun
  | [d] => { results := [.lit (.bool true)], args := [d] }
  | _ => none }
def envTextsRow : OpenClaim := { program := "ytolacdlobopoiaa", sum := "250c786cc1cf37d38795b014e18a0b17d2a6ce31ea467d2e9fba5501c07d2bde", func := "joinery/joinerylaw05.EnvTexts", spec := "envTexts", unfollowed := true, recurses := true, apart := false }
def EnvTextsSaid : Prop := envTextsRow.holds Try.pinned (OpenSpec.ofChange envTextsSpec)

/-- ITS FALSE NEIGHBOUR: 'it returns false'. Refute it at one input. -/
def envTextsWrong : ChangeSpec := { name := "envTexts", fn := fun _ => fun
  | [d] => { results := [.lit (.bool false)], args := [d] }
  | _ => none }
def EnvTextsWrongFalsely : Prop := envTextsRow.holds Try.pinned (OpenSpec.ofChange envTextsWrong)

/-- 'joinerylaw05.EnvTwice': WHATEVER THE INPUT: true; the input reads as it did. -/
def envTwiceSpec : ChangeSpec := { name := "envTwice", fn := fun _ => fun
  | [d1, d2, d3, d4, d5] => { results := [.lit (.bool true)], args := [d1, d2, d3, d4, d5] }
  | _ => none }
def envTwiceRow : OpenClaim := { program := "ytolacdlobopoiaa", sum := "250c786cc1cf37d38795b014e18a0b17d2a6ce31ea467d2e9fba5501c07d2bde", func := "joinery/joinerylaw05.EnvTwice", spec := "envTwice", unfollowed := true, recurses := true, apart := false }
def EnvTwiceSaid : Prop := envTwiceRow.holds Try.pinned (OpenSpec.ofChange envTwiceSpec)

/-- ITS FALSE NEIGHBOUR: 'it returns false'. Refute it at one input. -/
def envTwiceWrong : ChangeSpec := { name := "envTwice", fn := fun _ => fun
  | [d1, d2, d3, d4, d5] => { results := [.lit (.bool false)], args := [d1, d2, d3, d4, d5] }
  | _ => none }
def EnvTwiceWrongFalsely : Prop := envTwiceRow.holds Try.pinned (OpenSpec.ofChange envTwiceWrong)

/-- 'joinerylaw05.EnvOther': WHATEVER THE INPUT: true; the input reads as it did. -/
def envOtherSpec : ChangeSpec := { name := "envOther", fn := fun _ => fun
  | [d1, d2, d3] => { results := [.lit (.bool true)], args := [d1, d2, d3] }
  | _ => none }
def envOtherRow : OpenClaim := { program := "ytolacdlobopoiaa", sum := "250c786cc1cf37d38795b014e18a0b17d2a6ce31ea467d2e9fba5501c07d2bde", func := "joinery/joinerylaw05.EnvOther", spec := "envOther", unfollowed := true, recurses := true, apart := false }
def EnvOtherSaid : Prop := envOtherRow.holds Try.pinned (OpenSpec.ofChange envOtherSpec)

/-- ITS FALSE NEIGHBOUR: 'it returns false'. Refute it at one input. -/
def envOtherWrong : ChangeSpec := { name := "envOther", fn := fun _ => fun
  | [d1, d2, d3] => { results := [.lit (.bool false)], args := [d1, d2, d3] }
  | _ => none }
def EnvOtherWrongFalsely : Prop := envOtherRow.holds Try.pinned (OpenSpec.ofChange envOtherWrong)

/-- 'joinerylaw05.EnvFills': WHATEVER THE INPUT: true; the input reads as it did. -/
def envFillsSpec : ChangeSpec := { name := "envFills", fn := fun _ => fun
  | [d1, d2, d3, d4] => { results := [.lit (.bool true)], args := [d1, d2, d3, d4] }
  | _ => none }
def envFillsRow : OpenClaim := { program := "ytolacdlobopoiaa", sum := "250c786cc1cf37d38795b014e18a0b17d2a6ce31ea467d2e9fba5501c07d2bde", func := "joinery/joinerylaw05.EnvFills", spec := "envFills", unfollowed := true, recurses := true, apart := false }
def EnvFillsSaid : Prop := envFillsRow.holds Try.pinned (OpenSpec.ofChange envFillsSpec)

/-- ITS FALSE NEIGHBOUR: 'it returns false'. Refute it at one input. -/
def envFillsWrong : ChangeSpec := { name := "envFills", fn := fun _ => fun
  | [d1, d2, d3, d4] => { results := [.lit (.bool false)], args := [d1, d2, d3, d4] }
  | _ => none }
def EnvFillsWrongFalsely : Prop := envFillsRow.holds Try.pinned (OpenSpec.ofChange envFillsWrong)

/-- 'joinerylaw05.EnvChains': WHATEVER THE INPUT: true; the input reads as it did. -/
def envChainsSpec : ChangeSpec := { name := "envChains", fn := fun _ => fun
  | [d1, d2, d3, d4, d5] => { results := [.lit (.bool true)], args := [d1, d2, d3, d4, d5] }
  | _ => none }
def envChainsRow : OpenClaim := { program := "ytolacdlobopoiaa", sum := "250c786cc1cf37d38795b014e18a0b17d2a6ce31ea467d2e9fba5501c07d2bde", func := "joinery/joinerylaw05.EnvChains", spec := "envChains", unfollowed := true, recurses := true, apart := false }
def EnvChainsSaid : Prop := envChainsRow.holds Try.pinned (OpenSpec.ofChange envChainsSpec)

/-- ITS FALSE NEIGHBOUR: 'it returns false'. Refute it at one input. -/
def envChainsWrong : ChangeSpec := { name := "envChains", fn := fun _ => fun
  | [d1, d2, d3, d4, d5] => { results := [.lit (.bool false)], args := [d1, d2, d3, d4, d5] }
  | _ => none }
def EnvChainsWrongFalsely : Prop := envChainsRow.holds Try.pinned (OpenSpec.ofChange envChainsWrong)

/- THE SECOND FORM. 'bulk': how many values and letters a reading holds, each counted each time it is reached (what is shared counts as often as it is met; a slice's spare places count too). A statement '..UptoSaid' is the law's where the arguments, and the package variables that the reading takes, are together of bulk at most 1048576: NARROWER than '..Said'. Prove '..Said' where nothing that the law and all that it calls make is longer than what came in: it says more and counts as full. Else prove '..UptoSaid'. A law counts once. -/
mutual
def uptoBulk {H : Type} : DataW H → Nat
  | .lit (.string bytes) => bytes.length + 1
  | .lit _ => 1
  | .nil => 1
  | .ptr d => uptoBulk d + 1
  | .slice elems spare => uptoBulkAll elems + uptoBulkAll spare + 1
  | .agg parts => uptoBulkAll parts + 1
  | .iface _ d => uptoBulk d + 1
  | .map entries => uptoBulkEntries entries + 1
  | .held _ => 1
def uptoBulkAll {H : Type} : List (DataW H) → Nat
  | [] => 0
  | d :: r => uptoBulk d + uptoBulkAll r
def uptoBulkEntries {H : Type} : List (Lit × DataW H) → Nat
  | [] => 0
  | x :: r => uptoBulkEntry x + uptoBulkEntries r
def uptoBulkEntry {H : Type} : Lit × DataW H → Nat
  | (.string bytes, d) => bytes.length + uptoBulk d + 1
  | (_, d) => uptoBulk d + 1
 end
def uptoSmall : (H : Type) → List (DataW H) → Bool := fun _ ds => decide (uptoBulkAll ds ≤ 1048576)
def OpenSpec.upto (s : _root_.Go.ChangeSpec) : _root_.Go.OpenSpec := { _root_.Go.OpenSpec.ofChange s with cond := some uptoSmall }

/-- 'joinerylaw02.LocTexts', WHERE WHAT IT READS IS OF BULK AT MOST 1048576: true; the input reads as it did. -/
def locTextsUptoRow : OpenClaim := { program := "ytolacdlobopoiaa", sum := "250c786cc1cf37d38795b014e18a0b17d2a6ce31ea467d2e9fba5501c07d2bde", func := "joinery/joinerylaw02.LocTexts", spec := "locTexts", recurses := true, apart := false, narrowed := true }
def LocTextsUptoSaid : Prop := locTextsUptoRow.holds Try.pinned (OpenSpec.upto locTextsSpec)

/-- 'joinerylaw02.LocParses', WHERE WHAT IT READS IS OF BULK AT MOST 1048576: true; the input reads as it did. -/
def locParsesUptoRow : OpenClaim := { program := "ytolacdlobopoiaa", sum := "250c786cc1cf37d38795b014e18a0b17d2a6ce31ea467d2e9fba5501c07d2bde", func := "joinery/joinerylaw02.LocParses", spec := "locParses", recurses := true, apart := false, narrowed := true }
def LocParsesUptoSaid : Prop := locParsesUptoRow.holds Try.pinned (OpenSpec.upto locParsesSpec)

/-- 'joinerylaw02.LocBack', WHERE WHAT IT READS IS OF BULK AT MOST 1048576: true; the input reads as it did. -/
def locBackUptoRow : OpenClaim := { program := "ytolacdlobopoiaa", sum := "250c786cc1cf37d38795b014e18a0b17d2a6ce31ea467d2e9fba5501c07d2bde", func := "joinery/joinerylaw02.LocBack", spec := "locBack", apart := false, narrowed := true }
def LocBackUptoSaid : Prop := locBackUptoRow.holds Try.pinned (OpenSpec.upto locBackSpec)

/-- 'joinerylaw02.LocApart', WHERE WHAT IT READS IS OF BULK AT MOST 1048576: true; the input reads as it did. -/
def locApartUptoRow : OpenClaim := { program := "ytolacdlobopoiaa", sum := "250c786cc1cf37d38795b014e18a0b17d2a6ce31ea467d2e9fba5501c07d2bde", func := "joinery/joinerylaw02.LocApart", spec := "locApart", apart := false, narrowed := true }
def LocApartUptoSaid : Prop := locApartUptoRow.holds Try.pinned (OpenSpec.upto locApartSpec)

/-- 'joinerylaw02.LocFew', WHERE WHAT IT READS IS OF BULK AT MOST 1048576: true; the input reads as it did. -/
def locFewUptoRow : OpenClaim := { program := "ytolacdlobopoiaa", sum := "250c786cc1cf37d38795b014e18a0b17d2a6ce31ea467d2e9fba5501c07d2bde", func := "joinery/joinerylaw02.LocFew", spec := "locFew", apart := false, narrowed := true }
def LocFewUptoSaid : Prop := locFewUptoRow.holds Try.pinned (OpenSpec.upto locFewSpec)

/-- 'joinerylaw01.NumDoes', WHERE WHAT IT READS IS OF BULK AT MOST 1048576: true; the input reads as it did. -/
def numDoesUptoRow : OpenClaim := { program := "ytolacdlobopoiaa", sum := "250c786cc1cf37d38795b014e18a0b17d2a6ce31ea467d2e9fba5501c07d2bde", func := "joinery/joinerylaw01.NumDoes", spec := "numDoes", unfollowed := true, recurses := true, apart := false, narrowed := true }
def NumDoesUptoSaid : Prop := numDoesUptoRow.holds Try.pinned (OpenSpec.upto numDoesSpec)

/-- 'joinerylaw01.NumTexts', WHERE WHAT IT READS IS OF BULK AT MOST 1048576: true; the input reads as it did. -/
def numTextsUptoRow : OpenClaim := { program := "ytolacdlobopoiaa", sum := "250c786cc1cf37d38795b014e18a0b17d2a6ce31ea467d2e9fba5501c07d2bde", func := "joinery/joinerylaw01.NumTexts", spec := "numTexts", unfollowed := true, recurses := true, apart := false, narrowed := true }
def NumTextsUptoSaid : Prop := numTextsUptoRow.holds Try.pinned (OpenSpec.upto numTextsSpec)

/-- 'joinerylaw01.NumBack', WHERE WHAT IT READS IS OF BULK AT MOST 1048576: true; the input reads as it did. -/
def numBackUptoRow : OpenClaim := { program := "ytolacdlobopoiaa", sum := "250c786cc1cf37d38795b014e18a0b17d2a6ce31ea467d2e9fba5501c07d2bde", func := "joinery/joinerylaw01.NumBack", spec := "numBack", unfollowed := true, recurses := true, apart := false, narrowed := true }
def NumBackUptoSaid : Prop := numBackUptoRow.holds Try.pinned (OpenSpec.upto numBackSpec)

/-- 'joinerylaw01.NumLaws', WHERE WHAT IT READS IS OF BULK AT MOST 1048576: true; the input reads as it did. -/
def numLawsUptoRow : OpenClaim := { program := "ytolacdlobopoiaa", sum := "250c786cc1cf37d38795b014e18a0b17d2a6ce31ea467d2e9fba5501c07d2bde", func := "joinery/joinerylaw01.NumLaws", spec := "numLaws", unfollowed := true, recurses := true, apart := false, narrowed := true }
def NumLawsUptoSaid : Prop := numLawsUptoRow.holds Try.pinned (OpenSpec.upto numLawsSpec)

/-- 'joinerylaw01.NumOrders', WHERE WHAT IT READS IS OF BULK AT MOST 1048576: true; the input reads as it did. -/
def numOrdersUptoRow : OpenClaim := { program := "ytolacdlobopoiaa", sum := "250c786cc1cf37d38795b014e18a0b17d2a6ce31ea467d2e9fba5501c07d2bde", func := "joinery/joinerylaw01.NumOrders", spec := "numOrders", unfollowed := true, recurses := true, apart := false, narrowed := true }
def NumOrdersUptoSaid : Prop := numOrdersUptoRow.holds Try.pinned (OpenSpec.upto numOrdersSpec)

/-- 'joinerylaw01.NumDivides', WHERE WHAT IT READS IS OF BULK AT MOST 1048576: true; the input reads as it did. -/
def numDividesUptoRow : OpenClaim := { program := "ytolacdlobopoiaa", sum := "250c786cc1cf37d38795b014e18a0b17d2a6ce31ea467d2e9fba5501c07d2bde", func := "joinery/joinerylaw01.NumDivides", spec := "numDivides", unfollowed := true, recurses := true, apart := false, narrowed := true }
def NumDividesUptoSaid : Prop := numDividesUptoRow.holds Try.pinned (OpenSpec.upto numDividesSpec)

/-- 'joinerylaw01.NumBits', WHERE WHAT IT READS IS OF BULK AT MOST 1048576: true; the input reads as it did. -/
def numBitsUptoRow : OpenClaim := { program := "ytolacdlobopoiaa", sum := "250c786cc1cf37d38795b014e18a0b17d2a6ce31ea467d2e9fba5501c07d2bde", func := "joinery/joinerylaw01.NumBits", spec := "numBits", unfollowed := true, recurses := true, apart := false, narrowed := true }
def NumBitsUptoSaid : Prop := numBitsUptoRow.holds Try.pinned (OpenSpec.upto numBitsSpec)

/-- 'joinerylaw05.EnvTexts', WHERE WHAT IT READS IS OF BULK AT MOST 1048576: true; the input reads as it did. -/
def envTextsUptoRow : OpenClaim := { program := "ytolacdlobopoiaa", sum := "250c786cc1cf37d38795b014e18a0b17d2a6ce31ea467d2e9fba5501c07d2bde", func := "joinery/joinerylaw05.EnvTexts", spec := "envTexts", unfollowed := true, recurses := true, apart := false, narrowed := true }
def EnvTextsUptoSaid : Prop := envTextsUptoRow.holds Try.pinned (OpenSpec.upto envTextsSpec)

/-- 'joinerylaw05.EnvTwice', WHERE WHAT IT READS IS OF BULK AT MOST 1048576: true; the input reads as it did. -/
def envTwiceUptoRow : OpenClaim := { program := "ytolacdlobopoiaa", sum := "250c786cc1cf37d38795b014e18a0b17d2a6ce31ea467d2e9fba5501c07d2bde", func := "joinery/joinerylaw05.EnvTwice", spec := "envTwice", unfollowed := true, recurses := true, apart := false, narrowed := true }
def EnvTwiceUptoSaid : Prop := envTwiceUptoRow.holds Try.pinned (OpenSpec.upto envTwiceSpec)

/-- 'joinerylaw05.EnvOther', WHERE WHAT IT READS IS OF BULK AT MOST 1048576: true; the input reads as it did. -/
def envOtherUptoRow : OpenClaim := { program := "ytolacdlobopoiaa", sum := "250c786cc1cf37d38795b014e18a0b17d2a6ce31ea467d2e9fba5501c07d2bde", func := "joinery/joinerylaw05.EnvOther", spec := "envOther", unfollowed := true, recurses := true, apart := false, narrowed := true }
def EnvOtherUptoSaid : Prop := envOtherUptoRow.holds Try.pinned (OpenSpec.upto envOtherSpec)

/-- 'joinerylaw05.EnvFills', WHERE WHAT IT READS IS OF BULK AT MOST 1048576: true; the input reads as it did. -/
def envFillsUptoRow : OpenClaim := { program := "ytolacdlobopoiaa", sum := "250c786cc1cf37d38795b014e18a0b17d2a6ce31ea467d2e9fba5501c07d2bde", func := "joinery/joinerylaw05.EnvFills", spec := "envFills", unfollowed := true, recurses := true, apart := false, narrowed := true }
def EnvFillsUptoSaid : Prop := envFillsUptoRow.holds Try.pinned (OpenSpec.upto envFillsSpec)

/-- 'joinerylaw05.EnvChains', WHERE WHAT IT READS IS OF BULK AT MOST 1048576: true; the input reads as it did. -/
def envChainsUptoRow : OpenClaim := { program := "ytolacdlobopoiaa", sum := "250c786cc1cf37d38795b014e18a0b17d2a6ce31ea467d2e9fba5501c07d2bde", func := "joinery/joinerylaw05.EnvChains", spec := "envChains", unfollowed := true, recurses := true, apart := false, narrowed := true }
def EnvChainsUptoSaid : Prop := envChainsUptoRow.holds Try.pinned (OpenSpec.upto envChainsSpec)

end Rows
end Go.Proofs.Ytolacdlobopoiaa

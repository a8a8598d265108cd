/-
  NARROWER THAN 'FOR EVERY INPUT', by the rows' own cells (each row's printed sentence says how): TopShuffles: laid · TopChain: laid.
  DERIVED. THE GIVEN ROWS OF THIS SEAT. 2 by the template 'for every input the law returns true; each argument reads behind the call as it read before'; 0 by the template 'total and deterministic' (their statements: YtlinbehijfcelaaGreatDoorTotals.lean).
  GIVEN WITH THE SEED: the statements are not yours to turn. If you find one false, say at which input.
  Laid BY PROGRAM, IN A SANDBOX (cutbox-rows.mjs): the forced cells as the released guide's own fill.sh prints them over the translation 4131ef7842765dc1… (all of the seat's roots in one cut). By AI agents, Wed Nov 11 2026. No macro, syntax, notation, axiom, sorry.
-/
import Derived.Test.YtlinbehijfcelaaGreatDoorChecked
import GoSem.Claim
import GoSem.ClaimJoined
import GoSem.ClaimMapViews
import Derived.JoinedTies
import Derived.KernelRfl
namespace Go.Proofs.YtlinbehijfcelaaGreatDoor
/- THE CELL 'sum', in the pinned program and in every row, IS THE sha256 OF THE DUMP (.gsa) THAT YtlinbehijfcelaaGreatDoorProg.lean LOADS. Nothing in Lean hashes anything: it is a label: what it is worth is what the hold of that sum in a sandbox is worth. -/
noncomputable def Tryz.pinned : Pinned := { name := "ytlinbehijfcelaagreatdoor", sum := "4131ef7842765dc140ec1d0cc9cbfd73ac2f8985eb2b122948bf6123528eee71", checked := Tryz.checked }
namespace Rows
def none {H : Type} : Left H := { results := [], args := [] }

/- WHAT THE LISTED PACKAGE-LEVEL VARIABLES READ AS WHEN THE CALL BEGINS. Each datum BY PROGRAM (the guide's laid-datum.mjs) off the statement by which the dump's own 'gosem.cut.vars' lays the variable. In a bare row this is a premise. The card (YtlinbehijfcelaaGreatDoorCards.lean) ties it to the program's text. -/
def laid_joinery_ins_shapes {H : Type} : DataW H := .agg [.agg [.lit (.string [99, 111, 110, 115, 116]), .lit (.string [100, 78])], .agg [.lit (.string [109, 111, 118]), .lit (.string [100, 97])], .agg [.lit (.string [115, 119, 97, 112]), .lit (.string [100, 97])], .agg [.lit (.string [97, 100, 100]), .lit (.string [68, 65, 66])], .agg [.lit (.string [115, 117, 98]), .lit (.string [68, 65, 66])], .agg [.lit (.string [109, 117, 108]), .lit (.string [68, 65, 66])], .agg [.lit (.string [100, 105, 118]), .lit (.string [68, 65, 66])], .agg [.lit (.string [97, 110, 100]), .lit (.string [68, 65, 66])], .agg [.lit (.string [111, 114]), .lit (.string [68, 65, 66])], .agg [.lit (.string [120, 111, 114]), .lit (.string [68, 65, 66])], .agg [.lit (.string [108, 101, 115, 115]), .lit (.string [68, 65, 66])], .agg [.lit (.string [115, 97, 109, 101]), .lit (.string [68, 65, 66])], .agg [.lit (.string [108, 111, 97, 100]), .lit (.string [68, 65])], .agg [.lit (.string [115, 116, 111, 114, 101]), .lit (.string [65, 66])], .agg [.lit (.string [99, 97, 108, 108]), .lit (.string [68, 65, 78])], .agg [.lit (.string [106, 117, 109, 112]), .lit (.string [84])], .agg [.lit (.string [122, 101, 114, 111]), .lit (.string [65, 84])], .agg [.lit (.string [114, 101, 116]), .lit (.string [65])]]
def laid_joinery_value_open {H : Type} : DataW H := .agg [.lit (.int .i64 (-1)), .lit (.int .i64 0)]

/-- 'joinerytop.TopShuffles': WHATEVER THE INPUT: true; the input reads as it did. -/
def topShufflesSpec : ChangeSpec := { name := "topShuffles", fn := fun _ => fun
  | [d1, d2, d3] => { results := [.lit (.bool true)], args := [d1, d2, d3] }
  | _ => none }
def topShufflesRow : OpenClaim := { program := "ytlinbehijfcelaagreatdoor", sum := "4131ef7842765dc140ec1d0cc9cbfd73ac2f8985eb2b122948bf6123528eee71", func := "joinery/joinerytop.TopShuffles", spec := "topShuffles", unfollowed := true, recurses := true, named := ["joinery/ins.shapes", "joinery/value.open"], plainKeys := false, apart := false, laid := [("joinery/ins.shapes", laid_joinery_ins_shapes), ("joinery/value.open", laid_joinery_value_open)] }
def TopShufflesSaid : Prop := topShufflesRow.holds Tryz.pinned (OpenSpec.ofChange topShufflesSpec)

/-- ITS FALSE NEIGHBOUR: 'it returns false'. Refute it at one input. -/
def topShufflesWrong : ChangeSpec := { name := "topShuffles", fn := fun _ => fun
  | [d1, d2, d3] => { results := [.lit (.bool false)], args := [d1, d2, d3] }
  | _ => none }
def TopShufflesWrongFalsely : Prop := topShufflesRow.holds Tryz.pinned (OpenSpec.ofChange topShufflesWrong)

/-- 'joinerytop.TopChain': WHATEVER THE INPUT: true; the input reads as it did. -/
def topChainSpec : ChangeSpec := { name := "topChain", fn := fun _ => fun
  | [d1, d2, d3] => { results := [.lit (.bool true)], args := [d1, d2, d3] }
  | _ => none }
def topChainRow : OpenClaim := { program := "ytlinbehijfcelaagreatdoor", sum := "4131ef7842765dc140ec1d0cc9cbfd73ac2f8985eb2b122948bf6123528eee71", func := "joinery/joinerytop.TopChain", spec := "topChain", unfollowed := true, recurses := true, named := ["joinery/ins.shapes", "joinery/value.open"], plainKeys := false, apart := false, laid := [("joinery/ins.shapes", laid_joinery_ins_shapes), ("joinery/value.open", laid_joinery_value_open)] }
def TopChainSaid : Prop := topChainRow.holds Tryz.pinned (OpenSpec.ofChange topChainSpec)

/-- ITS FALSE NEIGHBOUR: 'it returns false'. Refute it at one input. -/
def topChainWrong : ChangeSpec := { name := "topChain", fn := fun _ => fun
  | [d1, d2, d3] => { results := [.lit (.bool false)], args := [d1, d2, d3] }
  | _ => none }
def TopChainWrongFalsely : Prop := topChainRow.holds Tryz.pinned (OpenSpec.ofChange topChainWrong)

/- THE SECOND FORM. 'bulk': how many values and letters a reading holds, each counted each time it is reached (what is shared counts as often as it is met; a slice's spare places count too). A statement '..UptoSaid' is the law's where the arguments, and the package variables that the reading takes, are together of bulk at most 1048576: NARROWER than '..Said'. Prove '..Said' where nothing that the law and all that it calls make is longer than what came in: it says more and counts as full. Else prove '..UptoSaid'. A law counts once. -/
mutual
def uptoBulk {H : Type} : DataW H → Nat
  | .lit (.string bytes) => bytes.length + 1
  | .lit _ => 1
  | .nil => 1
  | .ptr d => uptoBulk d + 1
  | .slice elems spare => uptoBulkAll elems + uptoBulkAll spare + 1
  | .agg parts => uptoBulkAll parts + 1
  | .iface _ d => uptoBulk d + 1
  | .map entries => uptoBulkEntries entries + 1
  | .held _ => 1
def uptoBulkAll {H : Type} : List (DataW H) → Nat
  | [] => 0
  | d :: r => uptoBulk d + uptoBulkAll r
def uptoBulkEntries {H : Type} : List (Lit × DataW H) → Nat
  | [] => 0
  | x :: r => uptoBulkEntry x + uptoBulkEntries r
def uptoBulkEntry {H : Type} : Lit × DataW H → Nat
  | (.string bytes, d) => bytes.length + uptoBulk d + 1
  | (_, d) => uptoBulk d + 1
 end
def uptoSmall : (H : Type) → List (DataW H) → Bool := fun _ ds => decide (uptoBulkAll ds ≤ 1048576)
def OpenSpec.upto (s : _root_.Go.ChangeSpec) : _root_.Go.OpenSpec := { _root_.Go.OpenSpec.ofChange s with cond := some uptoSmall }

/-- 'joinerytop.TopShuffles', WHERE WHAT IT READS IS OF BULK AT MOST 1048576: true; the input reads as it did. -/
def topShufflesUptoRow : OpenClaim := { program := "ytlinbehijfcelaagreatdoor", sum := "4131ef7842765dc140ec1d0cc9cbfd73ac2f8985eb2b122948bf6123528eee71", func := "joinery/joinerytop.TopShuffles", spec := "topShuffles", unfollowed := true, recurses := true, named := ["joinery/ins.shapes", "joinery/value.open"], plainKeys := false, apart := false, laid := [("joinery/ins.shapes", laid_joinery_ins_shapes), ("joinery/value.open", laid_joinery_value_open)], narrowed := true }
def TopShufflesUptoSaid : Prop := topShufflesUptoRow.holds Tryz.pinned (OpenSpec.upto topShufflesSpec)

/-- 'joinerytop.TopChain', WHERE WHAT IT READS IS OF BULK AT MOST 1048576: true; the input reads as it did. -/
def topChainUptoRow : OpenClaim := { program := "ytlinbehijfcelaagreatdoor", sum := "4131ef7842765dc140ec1d0cc9cbfd73ac2f8985eb2b122948bf6123528eee71", func := "joinery/joinerytop.TopChain", spec := "topChain", unfollowed := true, recurses := true, named := ["joinery/ins.shapes", "joinery/value.open"], plainKeys := false, apart := false, laid := [("joinery/ins.shapes", laid_joinery_ins_shapes), ("joinery/value.open", laid_joinery_value_open)], narrowed := true }
def TopChainUptoSaid : Prop := topChainUptoRow.holds Tryz.pinned (OpenSpec.upto topChainSpec)

end Rows
end Go.Proofs.YtlinbehijfcelaaGreatDoor

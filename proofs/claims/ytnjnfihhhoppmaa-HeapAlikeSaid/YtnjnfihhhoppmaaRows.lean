/-
  No cell of these rows narrows 'for every input' (looked for: loops, veiled, ifaces, maps, wideKeys, modest, calm, conditions, laid).
  DERIVED. THE GIVEN ROWS OF THIS SEAT. 6 by the template 'for every input the law returns true; each argument reads behind the call as it read before'; 0 by the template 'total and deterministic' (their statements: YtnjnfihhhoppmaaTotals.lean).
  GIVEN WITH THE SEED: the statements are not yours to turn. If you find one false, say at which input.
  Laid BY PROGRAM, IN A SANDBOX (cutbox-rows.mjs): the forced cells as the released guide's own fill.sh prints them over the translation 861eaf2011997c5b… (all of the seat's roots in one cut). By AI agents, Wed Nov 11 2026. No macro, syntax, notation, axiom, sorry.
-/
import Derived.Test.YtnjnfihhhoppmaaChecked
import GoSem.Claim
import GoSem.ClaimJoined
import GoSem.ClaimMapViews
import Derived.JoinedTies
import Derived.KernelRfl
namespace Go.Proofs.Ytnjnfihhhoppmaa
/- THE CELL 'sum', in the pinned program and in every row, IS THE sha256 OF THE DUMP (.gsa) THAT YtnjnfihhhoppmaaProg.lean LOADS. Nothing in Lean hashes anything: it is a label: what it is worth is what the hold of that sum in a sandbox is worth. -/
noncomputable def Try.pinned : Pinned := { name := "ytnjnfihhhoppmaa", sum := "861eaf2011997c5b61e24ed0d5780ab34cea34345ba1862f26f9884e5f131842", checked := Try.checked }
namespace Rows
def none {H : Type} : Left H := { results := [], args := [] }

/-- 'joinerylaw06.HeapLoads': WHATEVER THE INPUT: true; the input reads as it did. -/
def heapLoadsSpec : ChangeSpec := { name := "heapLoads", fn := fun _ => fun
  | [d1, d2, d3, d4] => { results := [.lit (.bool true)], args := [d1, d2, d3, d4] }
  | _ => none }
def heapLoadsRow : OpenClaim := { program := "ytnjnfihhhoppmaa", sum := "861eaf2011997c5b61e24ed0d5780ab34cea34345ba1862f26f9884e5f131842", func := "joinery/joinerylaw06.HeapLoads", spec := "heapLoads", apart := false }
def HeapLoadsSaid : Prop := heapLoadsRow.holds Try.pinned (OpenSpec.ofChange heapLoadsSpec)

/-- ITS FALSE NEIGHBOUR: 'it returns false'. Refute it at one input. -/
def heapLoadsWrong : ChangeSpec := { name := "heapLoads", fn := fun _ => fun
  | [d1, d2, d3, d4] => { results := [.lit (.bool false)], args := [d1, d2, d3, d4] }
  | _ => none }
def HeapLoadsWrongFalsely : Prop := heapLoadsRow.holds Try.pinned (OpenSpec.ofChange heapLoadsWrong)

/-- 'joinerylaw06.HeapKeeps': WHATEVER THE INPUT: true; the input reads as it did. -/
def heapKeepsSpec : ChangeSpec := { name := "heapKeeps", fn := fun _ => fun
  | [d1, d2, d3, d4] => { results := [.lit (.bool true)], args := [d1, d2, d3, d4] }
  | _ => none }
def heapKeepsRow : OpenClaim := { program := "ytnjnfihhhoppmaa", sum := "861eaf2011997c5b61e24ed0d5780ab34cea34345ba1862f26f9884e5f131842", func := "joinery/joinerylaw06.HeapKeeps", spec := "heapKeeps", apart := false }
def HeapKeepsSaid : Prop := heapKeepsRow.holds Try.pinned (OpenSpec.ofChange heapKeepsSpec)

/-- ITS FALSE NEIGHBOUR: 'it returns false'. Refute it at one input. -/
def heapKeepsWrong : ChangeSpec := { name := "heapKeeps", fn := fun _ => fun
  | [d1, d2, d3, d4] => { results := [.lit (.bool false)], args := [d1, d2, d3, d4] }
  | _ => none }
def HeapKeepsWrongFalsely : Prop := heapKeepsRow.holds Try.pinned (OpenSpec.ofChange heapKeepsWrong)

/-- 'joinerylaw06.HeapOrders': WHATEVER THE INPUT: true; the input reads as it did. -/
def heapOrdersSpec : ChangeSpec := { name := "heapOrders", fn := fun _ => fun
  | [d1, d2, d3, d4, d5] => { results := [.lit (.bool true)], args := [d1, d2, d3, d4, d5] }
  | _ => none }
def heapOrdersRow : OpenClaim := { program := "ytnjnfihhhoppmaa", sum := "861eaf2011997c5b61e24ed0d5780ab34cea34345ba1862f26f9884e5f131842", func := "joinery/joinerylaw06.HeapOrders", spec := "heapOrders", apart := false }
def HeapOrdersSaid : Prop := heapOrdersRow.holds Try.pinned (OpenSpec.ofChange heapOrdersSpec)

/-- ITS FALSE NEIGHBOUR: 'it returns false'. Refute it at one input. -/
def heapOrdersWrong : ChangeSpec := { name := "heapOrders", fn := fun _ => fun
  | [d1, d2, d3, d4, d5] => { results := [.lit (.bool false)], args := [d1, d2, d3, d4, d5] }
  | _ => none }
def HeapOrdersWrongFalsely : Prop := heapOrdersRow.holds Try.pinned (OpenSpec.ofChange heapOrdersWrong)

/-- 'joinerylaw06.HeapAlike': WHATEVER THE INPUT: true; the input reads as it did. -/
def heapAlikeSpec : ChangeSpec := { name := "heapAlike", fn := fun _ => fun
  | [d1, d2, d3] => { results := [.lit (.bool true)], args := [d1, d2, d3] }
  | _ => none }
def heapAlikeRow : OpenClaim := { program := "ytnjnfihhhoppmaa", sum := "861eaf2011997c5b61e24ed0d5780ab34cea34345ba1862f26f9884e5f131842", func := "joinery/joinerylaw06.HeapAlike", spec := "heapAlike", apart := false }
def HeapAlikeSaid : Prop := heapAlikeRow.holds Try.pinned (OpenSpec.ofChange heapAlikeSpec)

/-- ITS FALSE NEIGHBOUR: 'it returns false'. Refute it at one input. -/
def heapAlikeWrong : ChangeSpec := { name := "heapAlike", fn := fun _ => fun
  | [d1, d2, d3] => { results := [.lit (.bool false)], args := [d1, d2, d3] }
  | _ => none }
def HeapAlikeWrongFalsely : Prop := heapAlikeRow.holds Try.pinned (OpenSpec.ofChange heapAlikeWrong)

/-- 'joinerylaw06.HeapSelf': WHATEVER THE INPUT: true; the input reads as it did. -/
def heapSelfSpec : ChangeSpec := { name := "heapSelf", fn := fun _ => fun
  | [d1, d2] => { results := [.lit (.bool true)], args := [d1, d2] }
  | _ => none }
def heapSelfRow : OpenClaim := { program := "ytnjnfihhhoppmaa", sum := "861eaf2011997c5b61e24ed0d5780ab34cea34345ba1862f26f9884e5f131842", func := "joinery/joinerylaw06.HeapSelf", spec := "heapSelf", apart := false }
def HeapSelfSaid : Prop := heapSelfRow.holds Try.pinned (OpenSpec.ofChange heapSelfSpec)

/-- ITS FALSE NEIGHBOUR: 'it returns false'. Refute it at one input. -/
def heapSelfWrong : ChangeSpec := { name := "heapSelf", fn := fun _ => fun
  | [d1, d2] => { results := [.lit (.bool false)], args := [d1, d2] }
  | _ => none }
def HeapSelfWrongFalsely : Prop := heapSelfRow.holds Try.pinned (OpenSpec.ofChange heapSelfWrong)

/-- 'joinerylaw06.HeapBounds': WHATEVER THE INPUT: true; the input reads as it did. -/
def heapBoundsSpec : ChangeSpec := { name := "heapBounds", fn := fun _ => fun
  | [d1, d2, d3] => { results := [.lit (.bool true)], args := [d1, d2, d3] }
  | _ => none }
def heapBoundsRow : OpenClaim := { program := "ytnjnfihhhoppmaa", sum := "861eaf2011997c5b61e24ed0d5780ab34cea34345ba1862f26f9884e5f131842", func := "joinery/joinerylaw06.HeapBounds", spec := "heapBounds", apart := false }
def HeapBoundsSaid : Prop := heapBoundsRow.holds Try.pinned (OpenSpec.ofChange heapBoundsSpec)

/-- ITS FALSE NEIGHBOUR: 'it returns false'. Refute it at one input. -/
def heapBoundsWrong : ChangeSpec := { name := "heapBounds", fn := fun _ => fun
  | [d1, d2, d3] => { results := [.lit (.bool false)], args := [d1, d2, d3] }
  | _ => none }
def HeapBoundsWrongFalsely : Prop := heapBoundsRow.holds Try.pinned (OpenSpec.ofChange heapBoundsWrong)

/- THE SECOND FORM. 'bulk': how many values and letters a reading holds, each counted each time it is reached (what is shared counts as often as it is met; a slice's spare places count too). A statement '..UptoSaid' is the law's where the arguments, and the package variables that the reading takes, are together of bulk at most 1048576: NARROWER than '..Said'. Prove '..Said' where nothing that the law and all that it calls make is longer than what came in: it says more and counts as full. Else prove '..UptoSaid'. A law counts once. -/
mutual
def uptoBulk {H : Type} : DataW H → Nat
  | .lit (.string bytes) => bytes.length + 1
  | .lit _ => 1
  | .nil => 1
  | .ptr d => uptoBulk d + 1
  | .slice elems spare => uptoBulkAll elems + uptoBulkAll spare + 1
  | .agg parts => uptoBulkAll parts + 1
  | .iface _ d => uptoBulk d + 1
  | .map entries => uptoBulkEntries entries + 1
  | .held _ => 1
def uptoBulkAll {H : Type} : List (DataW H) → Nat
  | [] => 0
  | d :: r => uptoBulk d + uptoBulkAll r
def uptoBulkEntries {H : Type} : List (Lit × DataW H) → Nat
  | [] => 0
  | x :: r => uptoBulkEntry x + uptoBulkEntries r
def uptoBulkEntry {H : Type} : Lit × DataW H → Nat
  | (.string bytes, d) => bytes.length + uptoBulk d + 1
  | (_, d) => uptoBulk d + 1
 end
def uptoSmall : (H : Type) → List (DataW H) → Bool := fun _ ds => decide (uptoBulkAll ds ≤ 1048576)
def OpenSpec.upto (s : _root_.Go.ChangeSpec) : _root_.Go.OpenSpec := { _root_.Go.OpenSpec.ofChange s with cond := some uptoSmall }

/-- 'joinerylaw06.HeapLoads', WHERE WHAT IT READS IS OF BULK AT MOST 1048576: true; the input reads as it did. -/
def heapLoadsUptoRow : OpenClaim := { program := "ytnjnfihhhoppmaa", sum := "861eaf2011997c5b61e24ed0d5780ab34cea34345ba1862f26f9884e5f131842", func := "joinery/joinerylaw06.HeapLoads", spec := "heapLoads", apart := false, narrowed := true }
def HeapLoadsUptoSaid : Prop := heapLoadsUptoRow.holds Try.pinned (OpenSpec.upto heapLoadsSpec)

/-- 'joinerylaw06.HeapKeeps', WHERE WHAT IT READS IS OF BULK AT MOST 1048576: true; the input reads as it did. -/
def heapKeepsUptoRow : OpenClaim := { program := "ytnjnfihhhoppmaa", sum := "861eaf2011997c5b61e24ed0d5780ab34cea34345ba1862f26f9884e5f131842", func := "joinery/joinerylaw06.HeapKeeps", spec := "heapKeeps", apart := false, narrowed := true }
def HeapKeepsUptoSaid : Prop := heapKeepsUptoRow.holds Try.pinned (OpenSpec.upto heapKeepsSpec)

/-- 'joinerylaw06.HeapOrders', WHERE WHAT IT READS IS OF BULK AT MOST 1048576: true; the input reads as it did. -/
def heapOrdersUptoRow : OpenClaim := { program := "ytnjnfihhhoppmaa", sum := "861eaf2011997c5b61e24ed0d5780ab34cea34345ba1862f26f9884e5f131842", func := "joinery/joinerylaw06.HeapOrders", spec := "heapOrders", apart := false, narrowed := true }
def HeapOrdersUptoSaid : Prop := heapOrdersUptoRow.holds Try.pinned (OpenSpec.upto heapOrdersSpec)

/-- 'joinerylaw06.HeapAlike', WHERE WHAT IT READS IS OF BULK AT MOST 1048576: true; the input reads as it did. -/
def heapAlikeUptoRow : OpenClaim := { program := "ytnjnfihhhoppmaa", sum := "861eaf2011997c5b61e24ed0d5780ab34cea34345ba1862f26f9884e5f131842", func := "joinery/joinerylaw06.HeapAlike", spec := "heapAlike", apart := false, narrowed := true }
def HeapAlikeUptoSaid : Prop := heapAlikeUptoRow.holds Try.pinned (OpenSpec.upto heapAlikeSpec)

/-- 'joinerylaw06.HeapSelf', WHERE WHAT IT READS IS OF BULK AT MOST 1048576: true; the input reads as it did. -/
def heapSelfUptoRow : OpenClaim := { program := "ytnjnfihhhoppmaa", sum := "861eaf2011997c5b61e24ed0d5780ab34cea34345ba1862f26f9884e5f131842", func := "joinery/joinerylaw06.HeapSelf", spec := "heapSelf", apart := false, narrowed := true }
def HeapSelfUptoSaid : Prop := heapSelfUptoRow.holds Try.pinned (OpenSpec.upto heapSelfSpec)

/-- 'joinerylaw06.HeapBounds', WHERE WHAT IT READS IS OF BULK AT MOST 1048576: true; the input reads as it did. -/
def heapBoundsUptoRow : OpenClaim := { program := "ytnjnfihhhoppmaa", sum := "861eaf2011997c5b61e24ed0d5780ab34cea34345ba1862f26f9884e5f131842", func := "joinery/joinerylaw06.HeapBounds", spec := "heapBounds", apart := false, narrowed := true }
def HeapBoundsUptoSaid : Prop := heapBoundsUptoRow.holds Try.pinned (OpenSpec.upto heapBoundsSpec)

end Rows
end Go.Proofs.Ytnjnfihhhoppmaa

/-
  No cell of these rows narrows 'for every input' (looked for: loops, veiled, ifaces, maps, wideKeys, modest, calm, conditions, laid).
  DERIVED. THE GIVEN ROWS OF THIS SEAT. 6 by the template 'for every input the law returns true; each argument reads behind the call as it read before'; 0 by the template 'total and deterministic' (their statements: YtiibkhogahdeiaaTotals.lean).
  GIVEN WITH THE SEED: the statements are not yours to turn. If you find one false, say at which input.
  Laid BY PROGRAM, IN A SANDBOX (cutbox-rows.mjs): the forced cells as the released guide's own fill.sh prints them over the translation e11841203ead837d… (all of the seat's roots in one cut). By AI agents, Wed Nov 11 2026. No macro, syntax, notation, axiom, sorry.
-/
import Derived.Test.YtiibkhogahdeiaaChecked
import GoSem.Claim
import GoSem.ClaimJoined
import GoSem.ClaimMapViews
import Derived.JoinedTies
import Derived.KernelRfl
namespace Go.Proofs.Ytiibkhogahdeiaa
/- THE CELL 'sum', in the pinned program and in every row, IS THE sha256 OF THE DUMP (.gsa) THAT YtiibkhogahdeiaaProg.lean LOADS. Nothing in Lean hashes anything: it is a label: what it is worth is what the hold of that sum in a sandbox is worth. -/
noncomputable def Try.pinned : Pinned := { name := "ytiibkhogahdeiaa", sum := "e11841203ead837d84520214d36460bb3ec2ae8fe0c9a49151b9523cecd5adda", checked := Try.checked }
namespace Rows
def none {H : Type} : Left H := { results := [], args := [] }

/-- 'paxtarlaw16.PathheapMergeMatchesReference': WHATEVER THE INPUT: true; the input reads as it did. -/
def pathheapMergeMatchesReferenceSpec : ChangeSpec := { name := "pathheapMergeMatchesReference", fn := fun _ => fun
  | [d] => { results := [.lit (.bool true)], args := [d] }
  | _ => none }
def pathheapMergeMatchesReferenceRow : OpenClaim := { program := "ytiibkhogahdeiaa", sum := "e11841203ead837d84520214d36460bb3ec2ae8fe0c9a49151b9523cecd5adda", func := "paxtar/paxtarlaw16.PathheapMergeMatchesReference", spec := "pathheapMergeMatchesReference", unfollowed := true, recurses := true, apart := false }
def PathheapMergeMatchesReferenceSaid : Prop := pathheapMergeMatchesReferenceRow.holds Try.pinned (OpenSpec.ofChange pathheapMergeMatchesReferenceSpec)

/-- ITS FALSE NEIGHBOUR: 'it returns false'. Refute it at one input. -/
def pathheapMergeMatchesReferenceWrong : ChangeSpec := { name := "pathheapMergeMatchesReference", fn := fun _ => fun
  | [d] => { results := [.lit (.bool false)], args := [d] }
  | _ => none }
def PathheapMergeMatchesReferenceWrongFalsely : Prop := pathheapMergeMatchesReferenceRow.holds Try.pinned (OpenSpec.ofChange pathheapMergeMatchesReferenceWrong)

/-- 'paxtarlaw16.PathheapSorts': WHATEVER THE INPUT: true; the input reads as it did. -/
def pathheapSortsSpec : ChangeSpec := { name := "pathheapSorts", fn := fun _ => fun
  | [d1, d2] => { results := [.lit (.bool true)], args := [d1, d2] }
  | _ => none }
def pathheapSortsRow : OpenClaim := { program := "ytiibkhogahdeiaa", sum := "e11841203ead837d84520214d36460bb3ec2ae8fe0c9a49151b9523cecd5adda", func := "paxtar/paxtarlaw16.PathheapSorts", spec := "pathheapSorts", unfollowed := true, recurses := true, apart := false }
def PathheapSortsSaid : Prop := pathheapSortsRow.holds Try.pinned (OpenSpec.ofChange pathheapSortsSpec)

/-- ITS FALSE NEIGHBOUR: 'it returns false'. Refute it at one input. -/
def pathheapSortsWrong : ChangeSpec := { name := "pathheapSorts", fn := fun _ => fun
  | [d1, d2] => { results := [.lit (.bool false)], args := [d1, d2] }
  | _ => none }
def PathheapSortsWrongFalsely : Prop := pathheapSortsRow.holds Try.pinned (OpenSpec.ofChange pathheapSortsWrong)

/-- 'paxtarlaw16.PathheapIsolated': WHATEVER THE INPUT: true; the input reads as it did. -/
def pathheapIsolatedSpec : ChangeSpec := { name := "pathheapIsolated", fn := fun _ => fun
  | [d] => { results := [.lit (.bool true)], args := [d] }
  | _ => none }
def pathheapIsolatedRow : OpenClaim := { program := "ytiibkhogahdeiaa", sum := "e11841203ead837d84520214d36460bb3ec2ae8fe0c9a49151b9523cecd5adda", func := "paxtar/paxtarlaw16.PathheapIsolated", spec := "pathheapIsolated", unfollowed := true, recurses := true, apart := false }
def PathheapIsolatedSaid : Prop := pathheapIsolatedRow.holds Try.pinned (OpenSpec.ofChange pathheapIsolatedSpec)

/-- ITS FALSE NEIGHBOUR: 'it returns false'. Refute it at one input. -/
def pathheapIsolatedWrong : ChangeSpec := { name := "pathheapIsolated", fn := fun _ => fun
  | [d] => { results := [.lit (.bool false)], args := [d] }
  | _ => none }
def PathheapIsolatedWrongFalsely : Prop := pathheapIsolatedRow.holds Try.pinned (OpenSpec.ofChange pathheapIsolatedWrong)

/-- 'paxtarlaw16.PathheapMatchesReference': WHATEVER THE INPUT: true; the input reads as it did. -/
def pathheapMatchesReferenceSpec : ChangeSpec := { name := "pathheapMatchesReference", fn := fun _ => fun
  | [d1, d2] => { results := [.lit (.bool true)], args := [d1, d2] }
  | _ => none }
def pathheapMatchesReferenceRow : OpenClaim := { program := "ytiibkhogahdeiaa", sum := "e11841203ead837d84520214d36460bb3ec2ae8fe0c9a49151b9523cecd5adda", func := "paxtar/paxtarlaw16.PathheapMatchesReference", spec := "pathheapMatchesReference", unfollowed := true, recurses := true, apart := false }
def PathheapMatchesReferenceSaid : Prop := pathheapMatchesReferenceRow.holds Try.pinned (OpenSpec.ofChange pathheapMatchesReferenceSpec)

/-- ITS FALSE NEIGHBOUR: 'it returns false'. Refute it at one input. -/
def pathheapMatchesReferenceWrong : ChangeSpec := { name := "pathheapMatchesReference", fn := fun _ => fun
  | [d1, d2] => { results := [.lit (.bool false)], args := [d1, d2] }
  | _ => none }
def PathheapMatchesReferenceWrongFalsely : Prop := pathheapMatchesReferenceRow.holds Try.pinned (OpenSpec.ofChange pathheapMatchesReferenceWrong)

/-- 'paxtarlaw16.PathheapPeekIsPop': WHATEVER THE INPUT: true; the input reads as it did. -/
def pathheapPeekIsPopSpec : ChangeSpec := { name := "pathheapPeekIsPop", fn := fun _ => fun
  | [d] => { results := [.lit (.bool true)], args := [d] }
  | _ => none }
def pathheapPeekIsPopRow : OpenClaim := { program := "ytiibkhogahdeiaa", sum := "e11841203ead837d84520214d36460bb3ec2ae8fe0c9a49151b9523cecd5adda", func := "paxtar/paxtarlaw16.PathheapPeekIsPop", spec := "pathheapPeekIsPop", unfollowed := true, recurses := true, apart := false }
def PathheapPeekIsPopSaid : Prop := pathheapPeekIsPopRow.holds Try.pinned (OpenSpec.ofChange pathheapPeekIsPopSpec)

/-- ITS FALSE NEIGHBOUR: 'it returns false'. Refute it at one input. -/
def pathheapPeekIsPopWrong : ChangeSpec := { name := "pathheapPeekIsPop", fn := fun _ => fun
  | [d] => { results := [.lit (.bool false)], args := [d] }
  | _ => none }
def PathheapPeekIsPopWrongFalsely : Prop := pathheapPeekIsPopRow.holds Try.pinned (OpenSpec.ofChange pathheapPeekIsPopWrong)

/-- 'paxtarlaw16.PathheapMergeIsAssociative': WHATEVER THE INPUT: true; the input reads as it did. -/
def pathheapMergeIsAssociativeSpec : ChangeSpec := { name := "pathheapMergeIsAssociative", fn := fun _ => fun
  | [d1, d2, d3] => { results := [.lit (.bool true)], args := [d1, d2, d3] }
  | _ => none }
def pathheapMergeIsAssociativeRow : OpenClaim := { program := "ytiibkhogahdeiaa", sum := "e11841203ead837d84520214d36460bb3ec2ae8fe0c9a49151b9523cecd5adda", func := "paxtar/paxtarlaw16.PathheapMergeIsAssociative", spec := "pathheapMergeIsAssociative", unfollowed := true, recurses := true, apart := false }
def PathheapMergeIsAssociativeSaid : Prop := pathheapMergeIsAssociativeRow.holds Try.pinned (OpenSpec.ofChange pathheapMergeIsAssociativeSpec)

/-- ITS FALSE NEIGHBOUR: 'it returns false'. Refute it at one input. -/
def pathheapMergeIsAssociativeWrong : ChangeSpec := { name := "pathheapMergeIsAssociative", fn := fun _ => fun
  | [d1, d2, d3] => { results := [.lit (.bool false)], args := [d1, d2, d3] }
  | _ => none }
def PathheapMergeIsAssociativeWrongFalsely : Prop := pathheapMergeIsAssociativeRow.holds Try.pinned (OpenSpec.ofChange pathheapMergeIsAssociativeWrong)

/- THE SECOND FORM. 'bulk': how many values and letters a reading holds, each counted each time it is reached (what is shared counts as often as it is met; a slice's spare places count too). A statement '..UptoSaid' is the law's where the arguments, and the package variables that the reading takes, are together of bulk at most 1048576: NARROWER than '..Said'. Prove '..Said' where nothing that the law and all that it calls make is longer than what came in: it says more and counts as full. Else prove '..UptoSaid'. A law counts once. -/
mutual
def uptoBulk {H : Type} : DataW H → Nat
  | .lit (.string bytes) => bytes.length + 1
  | .lit _ => 1
  | .nil => 1
  | .ptr d => uptoBulk d + 1
  | .slice elems spare => uptoBulkAll elems + uptoBulkAll spare + 1
  | .agg parts => uptoBulkAll parts + 1
  | .iface _ d => uptoBulk d + 1
  | .map entries => uptoBulkEntries entries + 1
  | .held _ => 1
def uptoBulkAll {H : Type} : List (DataW H) → Nat
  | [] => 0
  | d :: r => uptoBulk d + uptoBulkAll r
def uptoBulkEntries {H : Type} : List (Lit × DataW H) → Nat
  | [] => 0
  | x :: r => uptoBulkEntry x + uptoBulkEntries r
def uptoBulkEntry {H : Type} : Lit × DataW H → Nat
  | (.string bytes, d) => bytes.length + uptoBulk d + 1
  | (_, d) => uptoBulk d + 1
 end
def uptoSmall : (H : Type) → List (DataW H) → Bool := fun _ ds => decide (uptoBulkAll ds ≤ 1048576)
def OpenSpec.upto (s : _root_.Go.ChangeSpec) : _root_.Go.OpenSpec := { _root_.Go.OpenSpec.ofChange s with cond := some uptoSmall }

/-- 'paxtarlaw16.PathheapMergeMatchesReference', WHERE WHAT IT READS IS OF BULK AT MOST 1048576: true; the input reads as it did. -/
def pathheapMergeMatchesReferenceUptoRow : OpenClaim := { program := "ytiibkhogahdeiaa", sum := "e11841203ead837d84520214d36460bb3ec2ae8fe0c9a49151b9523cecd5adda", func := "paxtar/paxtarlaw16.PathheapMergeMatchesReference", spec := "pathheapMergeMatchesReference", unfollowed := true, recurses := true, apart := false, narrowed := true }
def PathheapMergeMatchesReferenceUptoSaid : Prop := pathheapMergeMatchesReferenceUptoRow.holds Try.pinned (OpenSpec.upto pathheapMergeMatchesReferenceSpec)

/-- 'paxtarlaw16.PathheapSorts', WHERE WHAT IT READS IS OF BULK AT MOST 1048576: true; the input reads as it did. -/
def pathheapSortsUptoRow : OpenClaim := { program := "ytiibkhogahdeiaa", sum := "e11841203ead837d84520214d36460bb3ec2ae8fe0c9a49151b9523cecd5adda", func := "paxtar/paxtarlaw16.PathheapSorts", spec := "pathheapSorts", unfollowed := true, recurses := true, apart := false, narrowed := true }
def PathheapSortsUptoSaid : Prop := pathheapSortsUptoRow.holds Try.pinned (OpenSpec.upto pathheapSortsSpec)

/-- 'paxtarlaw16.PathheapIsolated', WHERE WHAT IT READS IS OF BULK AT MOST 1048576: true; the input reads as it did. -/
def pathheapIsolatedUptoRow : OpenClaim := { program := "ytiibkhogahdeiaa", sum := "e11841203ead837d84520214d36460bb3ec2ae8fe0c9a49151b9523cecd5adda", func := "paxtar/paxtarlaw16.PathheapIsolated", spec := "pathheapIsolated", unfollowed := true, recurses := true, apart := false, narrowed := true }
def PathheapIsolatedUptoSaid : Prop := pathheapIsolatedUptoRow.holds Try.pinned (OpenSpec.upto pathheapIsolatedSpec)

/-- 'paxtarlaw16.PathheapMatchesReference', WHERE WHAT IT READS IS OF BULK AT MOST 1048576: true; the input reads as it did. -/
def pathheapMatchesReferenceUptoRow : OpenClaim := { program := "ytiibkhogahdeiaa", sum := "e11841203ead837d84520214d36460bb3ec2ae8fe0c9a49151b9523cecd5adda", func := "paxtar/paxtarlaw16.PathheapMatchesReference", spec := "pathheapMatchesReference", unfollowed := true, recurses := true, apart := false, narrowed := true }
def PathheapMatchesReferenceUptoSaid : Prop := pathheapMatchesReferenceUptoRow.holds Try.pinned (OpenSpec.upto pathheapMatchesReferenceSpec)

/-- 'paxtarlaw16.PathheapPeekIsPop', WHERE WHAT IT READS IS OF BULK AT MOST 1048576: true; the input reads as it did. -/
def pathheapPeekIsPopUptoRow : OpenClaim := { program := "ytiibkhogahdeiaa", sum := "e11841203ead837d84520214d36460bb3ec2ae8fe0c9a49151b9523cecd5adda", func := "paxtar/paxtarlaw16.PathheapPeekIsPop", spec := "pathheapPeekIsPop", unfollowed := true, recurses := true, apart := false, narrowed := true }
def PathheapPeekIsPopUptoSaid : Prop := pathheapPeekIsPopUptoRow.holds Try.pinned (OpenSpec.upto pathheapPeekIsPopSpec)

/-- 'paxtarlaw16.PathheapMergeIsAssociative', WHERE WHAT IT READS IS OF BULK AT MOST 1048576: true; the input reads as it did. -/
def pathheapMergeIsAssociativeUptoRow : OpenClaim := { program := "ytiibkhogahdeiaa", sum := "e11841203ead837d84520214d36460bb3ec2ae8fe0c9a49151b9523cecd5adda", func := "paxtar/paxtarlaw16.PathheapMergeIsAssociative", spec := "pathheapMergeIsAssociative", unfollowed := true, recurses := true, apart := false, narrowed := true }
def PathheapMergeIsAssociativeUptoSaid : Prop := pathheapMergeIsAssociativeUptoRow.holds Try.pinned (OpenSpec.upto pathheapMergeIsAssociativeSpec)

end Rows
end Go.Proofs.Ytiibkhogahdeiaa

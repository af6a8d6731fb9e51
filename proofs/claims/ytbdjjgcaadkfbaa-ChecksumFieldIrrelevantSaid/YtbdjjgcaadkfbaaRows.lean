/-
  No cell of these rows narrows 'for every input' (looked for: loops, veiled, ifaces, maps, wideKeys, modest, calm, conditions, laid).
  DERIVED. THE GIVEN ROWS OF THIS SEAT. 5 by the template 'for every input the law returns true; each argument reads behind the call as it read before'; 0 by the template 'total and deterministic' (their statements: YtbdjjgcaadkfbaaTotals.lean).
  GIVEN WITH THE SEED: the statements are not yours to turn. If you find one false, say at which input.
  Laid BY PROGRAM, IN A SANDBOX (cutbox-rows.mjs): the forced cells as the released guide's own fill.sh prints them over the translation 8e5a541e5979603b… (all of the seat's roots in one cut). By AI agents, Wed Nov 11 2026. No macro, syntax, notation, axiom, sorry.
-/
import Derived.Test.YtbdjjgcaadkfbaaChecked
import GoSem.Claim
import GoSem.ClaimJoined
import GoSem.ClaimMapViews
import Derived.JoinedTies
import Derived.KernelRfl
namespace Go.Proofs.Ytbdjjgcaadkfbaa
/- THE CELL 'sum', in the pinned program and in every row, IS THE sha256 OF THE DUMP (.gsa) THAT YtbdjjgcaadkfbaaProg.lean LOADS. Nothing in Lean hashes anything: it is a label: what it is worth is what the hold of that sum in a sandbox is worth. -/
noncomputable def Try.pinned : Pinned := { name := "ytbdjjgcaadkfbaa", sum := "8e5a541e5979603b318ce237e209615bb8489dbe2b1cc226cc66157e82b9d981", checked := Try.checked }
namespace Rows
def none {H : Type} : Left H := { results := [], args := [] }

/-- 'paxtarlaw03.ChecksumFieldIrrelevant': WHATEVER THE INPUT: true; the input reads as it did. -/
def checksumFieldIrrelevantSpec : ChangeSpec := { name := "checksumFieldIrrelevant", fn := fun _ => fun
  | [d1, d2] => { results := [.lit (.bool true)], args := [d1, d2] }
  | _ => none }
def checksumFieldIrrelevantRow : OpenClaim := { program := "ytbdjjgcaadkfbaa", sum := "8e5a541e5979603b318ce237e209615bb8489dbe2b1cc226cc66157e82b9d981", func := "paxtar/paxtarlaw03.ChecksumFieldIrrelevant", spec := "checksumFieldIrrelevant", apart := false }
def ChecksumFieldIrrelevantSaid : Prop := checksumFieldIrrelevantRow.holds Try.pinned (OpenSpec.ofChange checksumFieldIrrelevantSpec)

/-- ITS FALSE NEIGHBOUR: 'it returns false'. Refute it at one input. -/
def checksumFieldIrrelevantWrong : ChangeSpec := { name := "checksumFieldIrrelevant", fn := fun _ => fun
  | [d1, d2] => { results := [.lit (.bool false)], args := [d1, d2] }
  | _ => none }
def ChecksumFieldIrrelevantWrongFalsely : Prop := checksumFieldIrrelevantRow.holds Try.pinned (OpenSpec.ofChange checksumFieldIrrelevantWrong)

/-- 'paxtarlaw03.ChecksumAdds': WHATEVER THE INPUT: true; the input reads as it did. -/
def checksumAddsSpec : ChangeSpec := { name := "checksumAdds", fn := fun _ => fun
  | [d1, d2, d3] => { results := [.lit (.bool true)], args := [d1, d2, d3] }
  | _ => none }
def checksumAddsRow : OpenClaim := { program := "ytbdjjgcaadkfbaa", sum := "8e5a541e5979603b318ce237e209615bb8489dbe2b1cc226cc66157e82b9d981", func := "paxtar/paxtarlaw03.ChecksumAdds", spec := "checksumAdds", apart := false }
def ChecksumAddsSaid : Prop := checksumAddsRow.holds Try.pinned (OpenSpec.ofChange checksumAddsSpec)

/-- ITS FALSE NEIGHBOUR: 'it returns false'. Refute it at one input. -/
def checksumAddsWrong : ChangeSpec := { name := "checksumAdds", fn := fun _ => fun
  | [d1, d2, d3] => { results := [.lit (.bool false)], args := [d1, d2, d3] }
  | _ => none }
def ChecksumAddsWrongFalsely : Prop := checksumAddsRow.holds Try.pinned (OpenSpec.ofChange checksumAddsWrong)

/-- 'paxtarlaw03.ChecksumMatchesReference': WHATEVER THE INPUT: true; the input reads as it did. -/
def checksumMatchesReferenceSpec : ChangeSpec := { name := "checksumMatchesReference", fn := fun _ => fun
  | [d] => { results := [.lit (.bool true)], args := [d] }
  | _ => none }
def checksumMatchesReferenceRow : OpenClaim := { program := "ytbdjjgcaadkfbaa", sum := "8e5a541e5979603b318ce237e209615bb8489dbe2b1cc226cc66157e82b9d981", func := "paxtar/paxtarlaw03.ChecksumMatchesReference", spec := "checksumMatchesReference", apart := false }
def ChecksumMatchesReferenceSaid : Prop := checksumMatchesReferenceRow.holds Try.pinned (OpenSpec.ofChange checksumMatchesReferenceSpec)

/-- ITS FALSE NEIGHBOUR: 'it returns false'. Refute it at one input. -/
def checksumMatchesReferenceWrong : ChangeSpec := { name := "checksumMatchesReference", fn := fun _ => fun
  | [d] => { results := [.lit (.bool false)], args := [d] }
  | _ => none }
def ChecksumMatchesReferenceWrongFalsely : Prop := checksumMatchesReferenceRow.holds Try.pinned (OpenSpec.ofChange checksumMatchesReferenceWrong)

/-- 'paxtarlaw03.ChecksumSealVerifies': WHATEVER THE INPUT: true; the input reads as it did. -/
def checksumSealVerifiesSpec : ChangeSpec := { name := "checksumSealVerifies", fn := fun _ => fun
  | [d] => { results := [.lit (.bool true)], args := [d] }
  | _ => none }
def checksumSealVerifiesRow : OpenClaim := { program := "ytbdjjgcaadkfbaa", sum := "8e5a541e5979603b318ce237e209615bb8489dbe2b1cc226cc66157e82b9d981", func := "paxtar/paxtarlaw03.ChecksumSealVerifies", spec := "checksumSealVerifies", apart := false }
def ChecksumSealVerifiesSaid : Prop := checksumSealVerifiesRow.holds Try.pinned (OpenSpec.ofChange checksumSealVerifiesSpec)

/-- ITS FALSE NEIGHBOUR: 'it returns false'. Refute it at one input. -/
def checksumSealVerifiesWrong : ChangeSpec := { name := "checksumSealVerifies", fn := fun _ => fun
  | [d] => { results := [.lit (.bool false)], args := [d] }
  | _ => none }
def ChecksumSealVerifiesWrongFalsely : Prop := checksumSealVerifiesRow.holds Try.pinned (OpenSpec.ofChange checksumSealVerifiesWrong)

/-- 'paxtarlaw03.ChecksumDetectsOneByte': WHATEVER THE INPUT: true; the input reads as it did. -/
def checksumDetectsOneByteSpec : ChangeSpec := { name := "checksumDetectsOneByte", fn := fun _ => fun
  | [d1, d2, d3] => { results := [.lit (.bool true)], args := [d1, d2, d3] }
  | _ => none }
def checksumDetectsOneByteRow : OpenClaim := { program := "ytbdjjgcaadkfbaa", sum := "8e5a541e5979603b318ce237e209615bb8489dbe2b1cc226cc66157e82b9d981", func := "paxtar/paxtarlaw03.ChecksumDetectsOneByte", spec := "checksumDetectsOneByte", apart := false }
def ChecksumDetectsOneByteSaid : Prop := checksumDetectsOneByteRow.holds Try.pinned (OpenSpec.ofChange checksumDetectsOneByteSpec)

/-- ITS FALSE NEIGHBOUR: 'it returns false'. Refute it at one input. -/
def checksumDetectsOneByteWrong : ChangeSpec := { name := "checksumDetectsOneByte", fn := fun _ => fun
  | [d1, d2, d3] => { results := [.lit (.bool false)], args := [d1, d2, d3] }
  | _ => none }
def ChecksumDetectsOneByteWrongFalsely : Prop := checksumDetectsOneByteRow.holds Try.pinned (OpenSpec.ofChange checksumDetectsOneByteWrong)

/- THE SECOND FORM. 'bulk': how many values and letters a reading holds, each counted each time it is reached (what is shared counts as often as it is met; a slice's spare places count too). A statement '..UptoSaid' is the law's where the arguments, and the package variables that the reading takes, are together of bulk at most 1048576: NARROWER than '..Said'. Prove '..Said' where nothing that the law and all that it calls make is longer than what came in: it says more and counts as full. Else prove '..UptoSaid'. A law counts once. -/
mutual
def uptoBulk {H : Type} : DataW H → Nat
  | .lit (.string bytes) => bytes.length + 1
  | .lit _ => 1
  | .nil => 1
  | .ptr d => uptoBulk d + 1
  | .slice elems spare => uptoBulkAll elems + uptoBulkAll spare + 1
  | .agg parts => uptoBulkAll parts + 1
  | .iface _ d => uptoBulk d + 1
  | .map entries => uptoBulkEntries entries + 1
  | .held _ => 1
def uptoBulkAll {H : Type} : List (DataW H) → Nat
  | [] => 0
  | d :: r => uptoBulk d + uptoBulkAll r
def uptoBulkEntries {H : Type} : List (Lit × DataW H) → Nat
  | [] => 0
  | x :: r => uptoBulkEntry x + uptoBulkEntries r
def uptoBulkEntry {H : Type} : Lit × DataW H → Nat
  | (.string bytes, d) => bytes.length + uptoBulk d + 1
  | (_, d) => uptoBulk d + 1
 end
def uptoSmall : (H : Type) → List (DataW H) → Bool := fun _ ds => decide (uptoBulkAll ds ≤ 1048576)
def OpenSpec.upto (s : _root_.Go.ChangeSpec) : _root_.Go.OpenSpec := { _root_.Go.OpenSpec.ofChange s with cond := some uptoSmall }

/-- 'paxtarlaw03.ChecksumFieldIrrelevant', WHERE WHAT IT READS IS OF BULK AT MOST 1048576: true; the input reads as it did. -/
def checksumFieldIrrelevantUptoRow : OpenClaim := { program := "ytbdjjgcaadkfbaa", sum := "8e5a541e5979603b318ce237e209615bb8489dbe2b1cc226cc66157e82b9d981", func := "paxtar/paxtarlaw03.ChecksumFieldIrrelevant", spec := "checksumFieldIrrelevant", apart := false, narrowed := true }
def ChecksumFieldIrrelevantUptoSaid : Prop := checksumFieldIrrelevantUptoRow.holds Try.pinned (OpenSpec.upto checksumFieldIrrelevantSpec)

/-- 'paxtarlaw03.ChecksumAdds', WHERE WHAT IT READS IS OF BULK AT MOST 1048576: true; the input reads as it did. -/
def checksumAddsUptoRow : OpenClaim := { program := "ytbdjjgcaadkfbaa", sum := "8e5a541e5979603b318ce237e209615bb8489dbe2b1cc226cc66157e82b9d981", func := "paxtar/paxtarlaw03.ChecksumAdds", spec := "checksumAdds", apart := false, narrowed := true }
def ChecksumAddsUptoSaid : Prop := checksumAddsUptoRow.holds Try.pinned (OpenSpec.upto checksumAddsSpec)

/-- 'paxtarlaw03.ChecksumMatchesReference', WHERE WHAT IT READS IS OF BULK AT MOST 1048576: true; the input reads as it did. -/
def checksumMatchesReferenceUptoRow : OpenClaim := { program := "ytbdjjgcaadkfbaa", sum := "8e5a541e5979603b318ce237e209615bb8489dbe2b1cc226cc66157e82b9d981", func := "paxtar/paxtarlaw03.ChecksumMatchesReference", spec := "checksumMatchesReference", apart := false, narrowed := true }
def ChecksumMatchesReferenceUptoSaid : Prop := checksumMatchesReferenceUptoRow.holds Try.pinned (OpenSpec.upto checksumMatchesReferenceSpec)

/-- 'paxtarlaw03.ChecksumSealVerifies', WHERE WHAT IT READS IS OF BULK AT MOST 1048576: true; the input reads as it did. -/
def checksumSealVerifiesUptoRow : OpenClaim := { program := "ytbdjjgcaadkfbaa", sum := "8e5a541e5979603b318ce237e209615bb8489dbe2b1cc226cc66157e82b9d981", func := "paxtar/paxtarlaw03.ChecksumSealVerifies", spec := "checksumSealVerifies", apart := false, narrowed := true }
def ChecksumSealVerifiesUptoSaid : Prop := checksumSealVerifiesUptoRow.holds Try.pinned (OpenSpec.upto checksumSealVerifiesSpec)

/-- 'paxtarlaw03.ChecksumDetectsOneByte', WHERE WHAT IT READS IS OF BULK AT MOST 1048576: true; the input reads as it did. -/
def checksumDetectsOneByteUptoRow : OpenClaim := { program := "ytbdjjgcaadkfbaa", sum := "8e5a541e5979603b318ce237e209615bb8489dbe2b1cc226cc66157e82b9d981", func := "paxtar/paxtarlaw03.ChecksumDetectsOneByte", spec := "checksumDetectsOneByte", apart := false, narrowed := true }
def ChecksumDetectsOneByteUptoSaid : Prop := checksumDetectsOneByteUptoRow.holds Try.pinned (OpenSpec.upto checksumDetectsOneByteSpec)

end Rows
end Go.Proofs.Ytbdjjgcaadkfbaa

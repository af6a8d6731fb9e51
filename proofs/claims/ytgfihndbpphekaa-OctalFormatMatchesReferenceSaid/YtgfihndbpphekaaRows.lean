/-
  No cell of these rows narrows 'for every input' (looked for: loops, veiled, ifaces, maps, wideKeys, modest, calm, conditions, laid).
  DERIVED. THE GIVEN ROWS OF THIS SEAT. 7 by the template 'for every input the law returns true; each argument reads behind the call as it read before'; 0 by the template 'total and deterministic' (their statements: YtgfihndbpphekaaTotals.lean).
  GIVEN WITH THE SEED: the statements are not yours to turn. If you find one false, say at which input.
  Laid BY PROGRAM, IN A SANDBOX (cutbox-rows.mjs): the forced cells as the released guide's own fill.sh prints them over the translation cac35fc11ec7b378… (all of the seat's roots in one cut). By AI agents, Wed Nov 11 2026. No macro, syntax, notation, axiom, sorry.
-/
import Derived.Test.YtgfihndbpphekaaChecked
import GoSem.Claim
import GoSem.ClaimJoined
import GoSem.ClaimMapViews
import Derived.JoinedTies
import Derived.KernelRfl
namespace Go.Proofs.Ytgfihndbpphekaa
/- THE CELL 'sum', in the pinned program and in every row, IS THE sha256 OF THE DUMP (.gsa) THAT YtgfihndbpphekaaProg.lean LOADS. Nothing in Lean hashes anything: it is a label: what it is worth is what the hold of that sum in a sandbox is worth. -/
noncomputable def Try.pinned : Pinned := { name := "ytgfihndbpphekaa", sum := "cac35fc11ec7b378109dda5e84a84b05cba47f1e3e7e93fb35c5c7487e3d29cf", checked := Try.checked }
namespace Rows
def none {H : Type} : Left H := { results := [], args := [] }

/-- 'paxtarlaw01.OctalFormatMatchesReference': WHATEVER THE INPUT: true; the input reads as it did. -/
def octalFormatMatchesReferenceSpec : ChangeSpec := { name := "octalFormatMatchesReference", fn := fun _ => fun
  | [d1, d2] => { results := [.lit (.bool true)], args := [d1, d2] }
  | _ => none }
def octalFormatMatchesReferenceRow : OpenClaim := { program := "ytgfihndbpphekaa", sum := "cac35fc11ec7b378109dda5e84a84b05cba47f1e3e7e93fb35c5c7487e3d29cf", func := "paxtar/paxtarlaw01.OctalFormatMatchesReference", spec := "octalFormatMatchesReference", apart := false }
def OctalFormatMatchesReferenceSaid : Prop := octalFormatMatchesReferenceRow.holds Try.pinned (OpenSpec.ofChange octalFormatMatchesReferenceSpec)

/-- ITS FALSE NEIGHBOUR: 'it returns false'. Refute it at one input. -/
def octalFormatMatchesReferenceWrong : ChangeSpec := { name := "octalFormatMatchesReference", fn := fun _ => fun
  | [d1, d2] => { results := [.lit (.bool false)], args := [d1, d2] }
  | _ => none }
def OctalFormatMatchesReferenceWrongFalsely : Prop := octalFormatMatchesReferenceRow.holds Try.pinned (OpenSpec.ofChange octalFormatMatchesReferenceWrong)

/-- 'paxtarlaw01.OctalMaxIsTight': WHATEVER THE INPUT: true; the input reads as it did. -/
def octalMaxIsTightSpec : ChangeSpec := { name := "octalMaxIsTight", fn := fun _ => fun
  | [d1, d2] => { results := [.lit (.bool true)], args := [d1, d2] }
  | _ => none }
def octalMaxIsTightRow : OpenClaim := { program := "ytgfihndbpphekaa", sum := "cac35fc11ec7b378109dda5e84a84b05cba47f1e3e7e93fb35c5c7487e3d29cf", func := "paxtar/paxtarlaw01.OctalMaxIsTight", spec := "octalMaxIsTight", apart := false }
def OctalMaxIsTightSaid : Prop := octalMaxIsTightRow.holds Try.pinned (OpenSpec.ofChange octalMaxIsTightSpec)

/-- ITS FALSE NEIGHBOUR: 'it returns false'. Refute it at one input. -/
def octalMaxIsTightWrong : ChangeSpec := { name := "octalMaxIsTight", fn := fun _ => fun
  | [d1, d2] => { results := [.lit (.bool false)], args := [d1, d2] }
  | _ => none }
def OctalMaxIsTightWrongFalsely : Prop := octalMaxIsTightRow.holds Try.pinned (OpenSpec.ofChange octalMaxIsTightWrong)

/-- 'paxtarlaw01.OctalOrder': WHATEVER THE INPUT: true; the input reads as it did. -/
def octalOrderSpec : ChangeSpec := { name := "octalOrder", fn := fun _ => fun
  | [d1, d2, d3] => { results := [.lit (.bool true)], args := [d1, d2, d3] }
  | _ => none }
def octalOrderRow : OpenClaim := { program := "ytgfihndbpphekaa", sum := "cac35fc11ec7b378109dda5e84a84b05cba47f1e3e7e93fb35c5c7487e3d29cf", func := "paxtar/paxtarlaw01.OctalOrder", spec := "octalOrder", apart := false }
def OctalOrderSaid : Prop := octalOrderRow.holds Try.pinned (OpenSpec.ofChange octalOrderSpec)

/-- ITS FALSE NEIGHBOUR: 'it returns false'. Refute it at one input. -/
def octalOrderWrong : ChangeSpec := { name := "octalOrder", fn := fun _ => fun
  | [d1, d2, d3] => { results := [.lit (.bool false)], args := [d1, d2, d3] }
  | _ => none }
def OctalOrderWrongFalsely : Prop := octalOrderRow.holds Try.pinned (OpenSpec.ofChange octalOrderWrong)

/-- 'paxtarlaw01.OctalDigits': WHATEVER THE INPUT: true; the input reads as it did. -/
def octalDigitsSpec : ChangeSpec := { name := "octalDigits", fn := fun _ => fun
  | [d1, d2] => { results := [.lit (.bool true)], args := [d1, d2] }
  | _ => none }
def octalDigitsRow : OpenClaim := { program := "ytgfihndbpphekaa", sum := "cac35fc11ec7b378109dda5e84a84b05cba47f1e3e7e93fb35c5c7487e3d29cf", func := "paxtar/paxtarlaw01.OctalDigits", spec := "octalDigits", apart := false }
def OctalDigitsSaid : Prop := octalDigitsRow.holds Try.pinned (OpenSpec.ofChange octalDigitsSpec)

/-- ITS FALSE NEIGHBOUR: 'it returns false'. Refute it at one input. -/
def octalDigitsWrong : ChangeSpec := { name := "octalDigits", fn := fun _ => fun
  | [d1, d2] => { results := [.lit (.bool false)], args := [d1, d2] }
  | _ => none }
def OctalDigitsWrongFalsely : Prop := octalDigitsRow.holds Try.pinned (OpenSpec.ofChange octalDigitsWrong)

/-- 'paxtarlaw01.OctalParseMatchesReference': WHATEVER THE INPUT: true; the input reads as it did. -/
def octalParseMatchesReferenceSpec : ChangeSpec := { name := "octalParseMatchesReference", fn := fun _ => fun
  | [d] => { results := [.lit (.bool true)], args := [d] }
  | _ => none }
def octalParseMatchesReferenceRow : OpenClaim := { program := "ytgfihndbpphekaa", sum := "cac35fc11ec7b378109dda5e84a84b05cba47f1e3e7e93fb35c5c7487e3d29cf", func := "paxtar/paxtarlaw01.OctalParseMatchesReference", spec := "octalParseMatchesReference", apart := false }
def OctalParseMatchesReferenceSaid : Prop := octalParseMatchesReferenceRow.holds Try.pinned (OpenSpec.ofChange octalParseMatchesReferenceSpec)

/-- ITS FALSE NEIGHBOUR: 'it returns false'. Refute it at one input. -/
def octalParseMatchesReferenceWrong : ChangeSpec := { name := "octalParseMatchesReference", fn := fun _ => fun
  | [d] => { results := [.lit (.bool false)], args := [d] }
  | _ => none }
def OctalParseMatchesReferenceWrongFalsely : Prop := octalParseMatchesReferenceRow.holds Try.pinned (OpenSpec.ofChange octalParseMatchesReferenceWrong)

/-- 'paxtarlaw01.OctalRoundTrip': WHATEVER THE INPUT: true; the input reads as it did. -/
def octalRoundTripSpec : ChangeSpec := { name := "octalRoundTrip", fn := fun _ => fun
  | [d1, d2, d3] => { results := [.lit (.bool true)], args := [d1, d2, d3] }
  | _ => none }
def octalRoundTripRow : OpenClaim := { program := "ytgfihndbpphekaa", sum := "cac35fc11ec7b378109dda5e84a84b05cba47f1e3e7e93fb35c5c7487e3d29cf", func := "paxtar/paxtarlaw01.OctalRoundTrip", spec := "octalRoundTrip", apart := false }
def OctalRoundTripSaid : Prop := octalRoundTripRow.holds Try.pinned (OpenSpec.ofChange octalRoundTripSpec)

/-- ITS FALSE NEIGHBOUR: 'it returns false'. Refute it at one input. -/
def octalRoundTripWrong : ChangeSpec := { name := "octalRoundTrip", fn := fun _ => fun
  | [d1, d2, d3] => { results := [.lit (.bool false)], args := [d1, d2, d3] }
  | _ => none }
def OctalRoundTripWrongFalsely : Prop := octalRoundTripRow.holds Try.pinned (OpenSpec.ofChange octalRoundTripWrong)

/-- 'paxtarlaw01.OctalRejectsVariants': WHATEVER THE INPUT: true; the input reads as it did. -/
def octalRejectsVariantsSpec : ChangeSpec := { name := "octalRejectsVariants", fn := fun _ => fun
  | [d1, d2, d3] => { results := [.lit (.bool true)], args := [d1, d2, d3] }
  | _ => none }
def octalRejectsVariantsRow : OpenClaim := { program := "ytgfihndbpphekaa", sum := "cac35fc11ec7b378109dda5e84a84b05cba47f1e3e7e93fb35c5c7487e3d29cf", func := "paxtar/paxtarlaw01.OctalRejectsVariants", spec := "octalRejectsVariants", apart := false }
def OctalRejectsVariantsSaid : Prop := octalRejectsVariantsRow.holds Try.pinned (OpenSpec.ofChange octalRejectsVariantsSpec)

/-- ITS FALSE NEIGHBOUR: 'it returns false'. Refute it at one input. -/
def octalRejectsVariantsWrong : ChangeSpec := { name := "octalRejectsVariants", fn := fun _ => fun
  | [d1, d2, d3] => { results := [.lit (.bool false)], args := [d1, d2, d3] }
  | _ => none }
def OctalRejectsVariantsWrongFalsely : Prop := octalRejectsVariantsRow.holds Try.pinned (OpenSpec.ofChange octalRejectsVariantsWrong)

/- THE SECOND FORM. 'bulk': how many values and letters a reading holds, each counted each time it is reached (what is shared counts as often as it is met; a slice's spare places count too). A statement '..UptoSaid' is the law's where the arguments, and the package variables that the reading takes, are together of bulk at most 1048576: NARROWER than '..Said'. Prove '..Said' where nothing that the law and all that it calls make is longer than what came in: it says more and counts as full. Else prove '..UptoSaid'. A law counts once. -/
mutual
def uptoBulk {H : Type} : DataW H → Nat
  | .lit (.string bytes) => bytes.length + 1
  | .lit _ => 1
  | .nil => 1
  | .ptr d => uptoBulk d + 1
  | .slice elems spare => uptoBulkAll elems + uptoBulkAll spare + 1
  | .agg parts => uptoBulkAll parts + 1
  | .iface _ d => uptoBulk d + 1
  | .map entries => uptoBulkEntries entries + 1
  | .held _ => 1
def uptoBulkAll {H : Type} : List (DataW H) → Nat
  | [] => 0
  | d :: r => uptoBulk d + uptoBulkAll r
def uptoBulkEntries {H : Type} : List (Lit × DataW H) → Nat
  | [] => 0
  | x :: r => uptoBulkEntry x + uptoBulkEntries r
def uptoBulkEntry {H : Type} : Lit × DataW H → Nat
  | (.string bytes, d) => bytes.length + uptoBulk d + 1
  | (_, d) => uptoBulk d + 1
 end
def uptoSmall : (H : Type) → List (DataW H) → Bool := fun _ ds => decide (uptoBulkAll ds ≤ 1048576)
def OpenSpec.upto (s : _root_.Go.ChangeSpec) : _root_.Go.OpenSpec := { _root_.Go.OpenSpec.ofChange s with cond := some uptoSmall }

/-- 'paxtarlaw01.OctalFormatMatchesReference', WHERE WHAT IT READS IS OF BULK AT MOST 1048576: true; the input reads as it did. -/
def octalFormatMatchesReferenceUptoRow : OpenClaim := { program := "ytgfihndbpphekaa", sum := "cac35fc11ec7b378109dda5e84a84b05cba47f1e3e7e93fb35c5c7487e3d29cf", func := "paxtar/paxtarlaw01.OctalFormatMatchesReference", spec := "octalFormatMatchesReference", apart := false, narrowed := true }
def OctalFormatMatchesReferenceUptoSaid : Prop := octalFormatMatchesReferenceUptoRow.holds Try.pinned (OpenSpec.upto octalFormatMatchesReferenceSpec)

/-- 'paxtarlaw01.OctalMaxIsTight', WHERE WHAT IT READS IS OF BULK AT MOST 1048576: true; the input reads as it did. -/
def octalMaxIsTightUptoRow : OpenClaim := { program := "ytgfihndbpphekaa", sum := "cac35fc11ec7b378109dda5e84a84b05cba47f1e3e7e93fb35c5c7487e3d29cf", func := "paxtar/paxtarlaw01.OctalMaxIsTight", spec := "octalMaxIsTight", apart := false, narrowed := true }
def OctalMaxIsTightUptoSaid : Prop := octalMaxIsTightUptoRow.holds Try.pinned (OpenSpec.upto octalMaxIsTightSpec)

/-- 'paxtarlaw01.OctalOrder', WHERE WHAT IT READS IS OF BULK AT MOST 1048576: true; the input reads as it did. -/
def octalOrderUptoRow : OpenClaim := { program := "ytgfihndbpphekaa", sum := "cac35fc11ec7b378109dda5e84a84b05cba47f1e3e7e93fb35c5c7487e3d29cf", func := "paxtar/paxtarlaw01.OctalOrder", spec := "octalOrder", apart := false, narrowed := true }
def OctalOrderUptoSaid : Prop := octalOrderUptoRow.holds Try.pinned (OpenSpec.upto octalOrderSpec)

/-- 'paxtarlaw01.OctalDigits', WHERE WHAT IT READS IS OF BULK AT MOST 1048576: true; the input reads as it did. -/
def octalDigitsUptoRow : OpenClaim := { program := "ytgfihndbpphekaa", sum := "cac35fc11ec7b378109dda5e84a84b05cba47f1e3e7e93fb35c5c7487e3d29cf", func := "paxtar/paxtarlaw01.OctalDigits", spec := "octalDigits", apart := false, narrowed := true }
def OctalDigitsUptoSaid : Prop := octalDigitsUptoRow.holds Try.pinned (OpenSpec.upto octalDigitsSpec)

/-- 'paxtarlaw01.OctalParseMatchesReference', WHERE WHAT IT READS IS OF BULK AT MOST 1048576: true; the input reads as it did. -/
def octalParseMatchesReferenceUptoRow : OpenClaim := { program := "ytgfihndbpphekaa", sum := "cac35fc11ec7b378109dda5e84a84b05cba47f1e3e7e93fb35c5c7487e3d29cf", func := "paxtar/paxtarlaw01.OctalParseMatchesReference", spec := "octalParseMatchesReference", apart := false, narrowed := true }
def OctalParseMatchesReferenceUptoSaid : Prop := octalParseMatchesReferenceUptoRow.holds Try.pinned (OpenSpec.upto octalParseMatchesReferenceSpec)

/-- 'paxtarlaw01.OctalRoundTrip', WHERE WHAT IT READS IS OF BULK AT MOST 1048576: true; the input reads as it did. -/
def octalRoundTripUptoRow : OpenClaim := { program := "ytgfihndbpphekaa", sum := "cac35fc11ec7b378109dda5e84a84b05cba47f1e3e7e93fb35c5c7487e3d29cf", func := "paxtar/paxtarlaw01.OctalRoundTrip", spec := "octalRoundTrip", apart := false, narrowed := true }
def OctalRoundTripUptoSaid : Prop := octalRoundTripUptoRow.holds Try.pinned (OpenSpec.upto octalRoundTripSpec)

/-- 'paxtarlaw01.OctalRejectsVariants', WHERE WHAT IT READS IS OF BULK AT MOST 1048576: true; the input reads as it did. -/
def octalRejectsVariantsUptoRow : OpenClaim := { program := "ytgfihndbpphekaa", sum := "cac35fc11ec7b378109dda5e84a84b05cba47f1e3e7e93fb35c5c7487e3d29cf", func := "paxtar/paxtarlaw01.OctalRejectsVariants", spec := "octalRejectsVariants", apart := false, narrowed := true }
def OctalRejectsVariantsUptoSaid : Prop := octalRejectsVariantsUptoRow.holds Try.pinned (OpenSpec.upto octalRejectsVariantsSpec)

end Rows
end Go.Proofs.Ytgfihndbpphekaa

-- PRINTED BY print.sh 35421559b90ae4d0a3588c463048766b98c2df88dd9212a6774a882060cdf62d: not written by this session
import Derived.Test.YtbdjjgcaadkfbaaProg
import Derived.Below
import Derived.Deep.Draws
import Derived.Deep.AppendLies
import Derived.Maps.AppendAt
import Derived.OwnWalk
import Derived.Laws.BytesArg
import Derived.Laws.MakeOwn
import Derived.Laws.OwnMore
import Derived.Deep.OwnRows
import Derived.Tactics
import Derived.Lib.ConvBytes
import Derived.Laws.Slices
import Derived.WalkKit
import Derived.KernelRfl
import Derived.RowKit3
import Derived.Deep.LoopGhost
import Derived.Deep.QuietTactic
import Derived.BigQuiet
import Derived.WideLaws
import Derived.Deep.DeepCutAuto
import Derived.Deep.CutBlock
import Derived.Deep.RegionHeld3
import Derived.Laws.Rows
import Derived.Lib.AppendStr
import Derived.ArgAppend
import Derived.Laws.IdiomCopy
import Derived.OrdersHeld
import Derived.Laws.BitsLemmas
import Derived.RowKit
import Derived.Test.YtbdjjgcaadkfbaaWWords
import Derived.Test.YtbdjjgcaadkfbaaWLast
import Derived.Test.YtbdjjgcaadkfbaaWTab
import Derived.Test.YtbdjjgcaadkfbaaWFour
import Derived.Test.YtbdjjgcaadkfbaaWQPut
import Derived.Test.YtbdjjgcaadkfbaaWApart
import Derived.Test.YtbdjjgcaadkfbaaWArr
import Derived.Test.YtbdjjgcaadkfbaaWZeros
import Derived.Test.YtbdjjgcaadkfbaaWFoot
import Derived.Test.YtbdjjgcaadkfbaaWKept
import Derived.Test.YtbdjjgcaadkfbaaWShare
import Derived.Test.YtbdjjgcaadkfbaaWN
import Derived.Test.YtbdjjgcaadkfbaaWFootNe
import Derived.Test.YtbdjjgcaadkfbaaWAt
import Derived.Test.YtbdjjgcaadkfbaaWEqStruct
import Derived.Test.YtbdjjgcaadkfbaaWRepsOne
import Derived.Test.YtbdjjgcaadkfbaaWInv
import Derived.Test.YtbdjjgcaadkfbaaWInvWords
import Derived.Test.YtbdjjgcaadkfbaaWGuard
import Derived.Test.YtbdjjgcaadkfbaaWNEv
import Derived.Test.YtbdjjgcaadkfbaaWMore
namespace Go.Proofs.Ytbdjjgcaadkfbaa.PChecksumMatchesReference
open Go.RowKit Go.Proofs.YtbdjjgcaadkfbaaW.PrintWords Go.Proofs.YtbdjjgcaadkfbaaW.PrintLast Go.Proofs.YtbdjjgcaadkfbaaW.PrintMore
attribute [local go_sem] max2_int min2_int max_two min_two max_three min_three max_four min_four   -- for this text's walks alone
set_option linter.unusedVariables false
set_option linter.unusedSimpArgs false



def errW : Option Int → Value
  | none => .nilIface
  | some c => .iface 0 (.int .i64 c)
theorem errW_none : errW none = .nilIface := rfl
theorem errW_some (c : Int) : errW (some c) = .iface 0 (.int .i64 c) := rfl

theorem info5 : (Try.prog.info? 5).map (fun i => (i.zero, i.size, i.bytes)) = some (some (.int .u8 0), 1, 1) := by kernel_rfl
-- the values' own types

end Go.Proofs.Ytbdjjgcaadkfbaa.PChecksumMatchesReference

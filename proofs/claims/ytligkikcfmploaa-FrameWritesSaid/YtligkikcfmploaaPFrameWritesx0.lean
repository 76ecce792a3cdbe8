-- PRINTED BY print.sh 35421559b90ae4d0a3588c463048766b98c2df88dd9212a6774a882060cdf62d: not written by this session
import Derived.Test.YtligkikcfmploaaProg
import Derived.Below
import Derived.Deep.Draws
import Derived.Deep.AppendLies
import Derived.Maps.AppendAt
import Derived.OwnWalk
import Derived.Laws.BytesArg
import Derived.Laws.MakeOwn
import Derived.Laws.OwnMore
import Derived.Deep.OwnRows
import Derived.Tactics
import Derived.Lib.ConvBytes
import Derived.Laws.Slices
import Derived.WalkKit
import Derived.KernelRfl
import Derived.RowKit3
import Derived.Deep.LoopGhost
import Derived.Deep.QuietTactic
import Derived.BigQuiet
import Derived.WideLaws
import Derived.Deep.DeepCutAuto
import Derived.Deep.CutBlock
import Derived.Deep.RegionHeld3
import Derived.Laws.Rows
import Derived.Lib.AppendStr
import Derived.ArgAppend
import Derived.Laws.IdiomCopy
import Derived.OrdersHeld
import Derived.Laws.BitsLemmas
import Derived.RowKit
import Derived.Test.YtligkikcfmploaaWWords
import Derived.Test.YtligkikcfmploaaWLast
import Derived.Test.YtligkikcfmploaaWTab
import Derived.Test.YtligkikcfmploaaWFour
import Derived.Test.YtligkikcfmploaaWQPut
import Derived.Test.YtligkikcfmploaaWApart
import Derived.Test.YtligkikcfmploaaWArr
import Derived.Test.YtligkikcfmploaaWZeros
import Derived.Test.YtligkikcfmploaaWFoot
import Derived.Test.YtligkikcfmploaaWKept
import Derived.Test.YtligkikcfmploaaWShare
import Derived.Test.YtligkikcfmploaaWN
import Derived.Test.YtligkikcfmploaaWFootNe
import Derived.Test.YtligkikcfmploaaWAt
import Derived.Test.YtligkikcfmploaaWEqStruct
import Derived.Test.YtligkikcfmploaaWRepsOne
import Derived.Test.YtligkikcfmploaaWInv
import Derived.Test.YtligkikcfmploaaWInvWords
import Derived.Test.YtligkikcfmploaaWGuard
import Derived.Test.YtligkikcfmploaaWNEv
import Derived.Test.YtligkikcfmploaaWMore
namespace Go.Proofs.Ytligkikcfmploaa.PFrameWrites
open Go.RowKit Go.Proofs.YtligkikcfmploaaW.PrintWords Go.Proofs.YtligkikcfmploaaW.PrintLast Go.Proofs.YtligkikcfmploaaW.PrintMore
attribute [local go_sem] max2_int min2_int max_two min_two max_three min_three max_four min_four   -- for this text's walks alone
set_option linter.unusedVariables false
set_option linter.unusedSimpArgs false



def errW : Option Int → Value
  | none => .nilIface
  | some c => .iface 0 (.int .i64 c)
theorem errW_none : errW none = .nilIface := rfl
theorem errW_some (c : Int) : errW (some c) = .iface 0 (.int .i64 c) := rfl

theorem info5 : (Try.prog.info? 5).map (fun i => (i.zero, i.size, i.bytes)) = some (some (.int .u8 0), 1, 1) := by kernel_rfl
-- the values' own types

end Go.Proofs.Ytligkikcfmploaa.PFrameWrites

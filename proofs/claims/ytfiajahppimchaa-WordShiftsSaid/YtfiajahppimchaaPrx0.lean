-- By this session's driver (wip/myprint.py) out of the translation; Lean checks it.
import Derived.Test.YtfiajahppimchaaProg
import Derived.Below
import Derived.Deep.Draws
import Derived.Deep.AppendLies
import Derived.Maps.AppendAt
import Derived.OwnWalk
import Derived.Laws.BytesArg
import Derived.Laws.MakeOwn
import Derived.Laws.OwnMore
import Derived.Deep.OwnRows
import Derived.Tactics
import Derived.Lib.ConvBytes
import Derived.Laws.Slices
import Derived.WalkKit
import Derived.KernelRfl
import Derived.RowKit3
import Derived.Deep.LoopGhost
import Derived.Deep.QuietTactic
import Derived.BigQuiet
import Derived.WideLaws
import Derived.Deep.DeepCutAuto
import Derived.Deep.CutBlock
import Derived.Deep.RegionHeld3
import Derived.Laws.Rows
import Derived.Lib.AppendStr
import Derived.ArgAppend
import Derived.Laws.IdiomCopy
import Derived.OrdersHeld
import Derived.Laws.BitsLemmas
import Derived.RowKit
import Derived.Test.YtfiajahppimchaaWWords
import Derived.Test.YtfiajahppimchaaWLast
import Derived.Test.YtfiajahppimchaaWTab
import Derived.Test.YtfiajahppimchaaWFour
import Derived.Test.YtfiajahppimchaaWQPut
import Derived.Test.YtfiajahppimchaaWApart
import Derived.Test.YtfiajahppimchaaWArr
import Derived.Test.YtfiajahppimchaaWZeros
import Derived.Test.YtfiajahppimchaaWFoot
import Derived.Test.YtfiajahppimchaaWKept
import Derived.Test.YtfiajahppimchaaWShare
import Derived.Test.YtfiajahppimchaaWN
import Derived.Test.YtfiajahppimchaaWFootNe
import Derived.Test.YtfiajahppimchaaWAt
import Derived.Test.YtfiajahppimchaaWEqStruct
import Derived.Test.YtfiajahppimchaaWRepsOne
import Derived.Test.YtfiajahppimchaaWInv
import Derived.Test.YtfiajahppimchaaWInvWords
import Derived.Test.YtfiajahppimchaaWGuard
import Derived.Test.YtfiajahppimchaaWNEv
import Derived.Test.YtfiajahppimchaaWMore
import Derived.Test.YtfiajahppimchaaDo
namespace Go.Proofs.Ytfiajahppimchaa.Pr
open Go.Proofs.Ytfiajahppimchaa.Do
open Go.RowKit Go.Proofs.YtfiajahppimchaaW.PrintWords Go.Proofs.YtfiajahppimchaaW.PrintLast Go.Proofs.YtfiajahppimchaaW.PrintMore
attribute [local go_sem] max2_int min2_int max_two min_two max_three min_three max_four min_four   -- for this text's walks alone
set_option linter.unusedVariables false
set_option linter.unusedSimpArgs false



def errW : Option Int → Value
  | none => .nilIface
  | some c => .iface 0 (.int .i64 c)
theorem errW_none : errW none = .nilIface := rfl
theorem errW_some (c : Int) : errW (some c) = .iface 0 (.int .i64 c) := rfl

-- the values' own types

end Go.Proofs.Ytfiajahppimchaa.Pr

-- By this session's driver (wip/myprint.py) out of the translation; Lean checks it.
import Derived.Test.YtfiajahppimchaaDoorProg
import Derived.Below
import Derived.Deep.Draws
import Derived.Deep.AppendLies
import Derived.Maps.AppendAt
import Derived.OwnWalk
import Derived.Laws.BytesArg
import Derived.Laws.MakeOwn
import Derived.Laws.OwnMore
import Derived.Deep.OwnRows
import Derived.Tactics
import Derived.Lib.ConvBytes
import Derived.Laws.Slices
import Derived.WalkKit
import Derived.KernelRfl
import Derived.RowKit3
import Derived.Deep.LoopGhost
import Derived.Deep.QuietTactic
import Derived.BigQuiet
import Derived.WideLaws
import Derived.Deep.DeepCutAuto
import Derived.Deep.CutBlock
import Derived.Deep.RegionHeld3
import Derived.Laws.Rows
import Derived.Lib.AppendStr
import Derived.ArgAppend
import Derived.Laws.IdiomCopy
import Derived.OrdersHeld
import Derived.Laws.BitsLemmas
import Derived.RowKit
import Derived.Test.YtfiajahppimchaaDoorWWords
import Derived.Test.YtfiajahppimchaaDoorWLast
import Derived.Test.YtfiajahppimchaaDoorWTab
import Derived.Test.YtfiajahppimchaaDoorWFour
import Derived.Test.YtfiajahppimchaaDoorWQPut
import Derived.Test.YtfiajahppimchaaDoorWApart
import Derived.Test.YtfiajahppimchaaDoorWArr
import Derived.Test.YtfiajahppimchaaDoorWZeros
import Derived.Test.YtfiajahppimchaaDoorWFoot
import Derived.Test.YtfiajahppimchaaDoorWKept
import Derived.Test.YtfiajahppimchaaDoorWShare
import Derived.Test.YtfiajahppimchaaDoorWN
import Derived.Test.YtfiajahppimchaaDoorWFootNe
import Derived.Test.YtfiajahppimchaaDoorWAt
import Derived.Test.YtfiajahppimchaaDoorWEqStruct
import Derived.Test.YtfiajahppimchaaDoorWRepsOne
import Derived.Test.YtfiajahppimchaaDoorWInv
import Derived.Test.YtfiajahppimchaaDoorWInvWords
import Derived.Test.YtfiajahppimchaaDoorWGuard
import Derived.Test.YtfiajahppimchaaDoorWNEv
import Derived.Test.YtfiajahppimchaaDoorWMore
import Derived.Test.YtfiajahppimchaaDoorDo
import Derived.Test.YtfiajahppimchaaDoorWord
namespace Go.Proofs.YtfiajahppimchaaDoor.Pr
open Go.Proofs.YtfiajahppimchaaDoor.Do
open Go.Proofs.YtfiajahppimchaaDoor.Wl
open Go.RowKit Go.Proofs.YtfiajahppimchaaDoorW.PrintWords Go.Proofs.YtfiajahppimchaaDoorW.PrintLast Go.Proofs.YtfiajahppimchaaDoorW.PrintMore
attribute [local go_sem] max2_int min2_int max_two min_two max_three min_three max_four min_four   -- for this text's walks alone
set_option linter.unusedVariables false
set_option linter.unusedSimpArgs false



def errW : Option Int → Value
  | none => .nilIface
  | some c => .iface 0 (.int .i64 c)
theorem errW_none : errW none = .nilIface := rfl
theorem errW_some (c : Int) : errW (some c) = .iface 0 (.int .i64 c) := rfl

theorem info5 : (Tryd.prog.info? 5).map (fun i => (i.zero, i.size, i.bytes)) = some (some (.int .u8 0), 1, 1) := by kernel_rfl
theorem info9 : (Tryd.prog.info? 9).map (fun i => (i.zero, i.size, i.bytes)) = some (some (.string ⟨#[]⟩), 1, 16) := by kernel_rfl
-- the values' own types

end Go.Proofs.YtfiajahppimchaaDoor.Pr

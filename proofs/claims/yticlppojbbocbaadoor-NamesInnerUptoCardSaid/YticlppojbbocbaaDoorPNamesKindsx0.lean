-- PRINTED BY print.sh 35421559b90ae4d0a3588c463048766b98c2df88dd9212a6774a882060cdf62d: not written by this session
import Derived.Test.YticlppojbbocbaaDoorProg
import Derived.Below
import Derived.Deep.Draws
import Derived.Deep.AppendLies
import Derived.Maps.AppendAt
import Derived.OwnWalk
import Derived.Laws.BytesArg
import Derived.Laws.MakeOwn
import Derived.Laws.OwnMore
import Derived.Deep.OwnRows
import Derived.Tactics
import Derived.Lib.ConvBytes
import Derived.Laws.Slices
import Derived.WalkKit
import Derived.KernelRfl
import Derived.RowKit3
import Derived.Deep.LoopGhost
import Derived.Deep.QuietTactic
import Derived.BigQuiet
import Derived.WideLaws
import Derived.Deep.DeepCutAuto
import Derived.Deep.CutBlock
import Derived.Deep.RegionHeld3
import Derived.Laws.Rows
import Derived.Lib.AppendStr
import Derived.ArgAppend
import Derived.Laws.IdiomCopy
import Derived.OrdersHeld
import Derived.Laws.BitsLemmas
import Derived.RowKit
import Derived.Test.YticlppojbbocbaaDoorWWords
import Derived.Test.YticlppojbbocbaaDoorWLast
import Derived.Test.YticlppojbbocbaaDoorWTab
import Derived.Test.YticlppojbbocbaaDoorWFour
import Derived.Test.YticlppojbbocbaaDoorWQPut
import Derived.Test.YticlppojbbocbaaDoorWApart
import Derived.Test.YticlppojbbocbaaDoorWArr
import Derived.Test.YticlppojbbocbaaDoorWZeros
import Derived.Test.YticlppojbbocbaaDoorWFoot
import Derived.Test.YticlppojbbocbaaDoorWKept
import Derived.Test.YticlppojbbocbaaDoorWShare
import Derived.Test.YticlppojbbocbaaDoorWN
import Derived.Test.YticlppojbbocbaaDoorWFootNe
import Derived.Test.YticlppojbbocbaaDoorWAt
import Derived.Test.YticlppojbbocbaaDoorWEqStruct
import Derived.Test.YticlppojbbocbaaDoorWRepsOne
import Derived.Test.YticlppojbbocbaaDoorWInv
import Derived.Test.YticlppojbbocbaaDoorWInvWords
import Derived.Test.YticlppojbbocbaaDoorWGuard
import Derived.Test.YticlppojbbocbaaDoorWNEv
import Derived.Test.YticlppojbbocbaaDoorWMore
namespace Go.Proofs.YticlppojbbocbaaDoor.PNamesKinds
open Go.RowKit Go.Proofs.YticlppojbbocbaaDoorW.PrintWords Go.Proofs.YticlppojbbocbaaDoorW.PrintLast Go.Proofs.YticlppojbbocbaaDoorW.PrintMore
attribute [local go_sem] max2_int min2_int max_two min_two max_three min_three max_four min_four   -- for this text's walks alone
set_option linter.unusedVariables false
set_option linter.unusedSimpArgs false



def errW : Option Int → Value
  | none => .nilIface
  | some c => .iface 0 (.int .i64 c)
theorem errW_none : errW none = .nilIface := rfl
theorem errW_some (c : Int) : errW (some c) = .iface 0 (.int .i64 c) := rfl

theorem info3 : (Tryd.prog.info? 3).map (fun i => (i.zero, i.size, i.bytes)) = some (some (.int .i64 0), 1, 8) := by kernel_rfl
-- the values' own types

end Go.Proofs.YticlppojbbocbaaDoor.PNamesKinds

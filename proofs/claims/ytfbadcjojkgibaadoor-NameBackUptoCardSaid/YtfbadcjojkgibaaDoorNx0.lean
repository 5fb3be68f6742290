-- written by wip/pp.py of this session (the kit's print with patches); checked by Lean alone
import Derived.Test.YtfbadcjojkgibaaDoorProg
import Derived.Test.YtfbadcjojkgibaaDoorFnVal
import Derived.Test.YtfbadcjojkgibaaDoorStrLib
import Derived.Below
import Derived.Deep.Draws
import Derived.Deep.AppendLies
import Derived.Maps.AppendAt
import Derived.OwnWalk
import Derived.Laws.BytesArg
import Derived.Laws.MakeOwn
import Derived.Laws.OwnMore
import Derived.Deep.OwnRows
import Derived.Tactics
import Derived.Lib.ConvBytes
import Derived.Laws.Slices
import Derived.WalkKit
import Derived.KernelRfl
import Derived.RowKit3
import Derived.Deep.LoopGhost
import Derived.Deep.QuietTactic
import Derived.BigQuiet
import Derived.WideLaws
import Derived.Deep.DeepCutAuto
import Derived.Deep.CutBlock
import Derived.Deep.RegionHeld3
import Derived.Laws.Rows
import Derived.Lib.AppendStr
import Derived.ArgAppend
import Derived.Laws.IdiomCopy
import Derived.OrdersHeld
import Derived.Laws.BitsLemmas
import Derived.RowKit
import Derived.Test.YtfbadcjojkgibaaDoorWWords
import Derived.Test.YtfbadcjojkgibaaDoorWLast
import Derived.Test.YtfbadcjojkgibaaDoorWTab
import Derived.Test.YtfbadcjojkgibaaDoorWFour
import Derived.Test.YtfbadcjojkgibaaDoorWQPut
import Derived.Test.YtfbadcjojkgibaaDoorWApart
import Derived.Test.YtfbadcjojkgibaaDoorWArr
import Derived.Test.YtfbadcjojkgibaaDoorWZeros
import Derived.Test.YtfbadcjojkgibaaDoorWFoot
import Derived.Test.YtfbadcjojkgibaaDoorWKept
import Derived.Test.YtfbadcjojkgibaaDoorWShare
import Derived.Test.YtfbadcjojkgibaaDoorWN
import Derived.Test.YtfbadcjojkgibaaDoorWFootNe
import Derived.Test.YtfbadcjojkgibaaDoorWAt
import Derived.Test.YtfbadcjojkgibaaDoorWEqStruct
import Derived.Test.YtfbadcjojkgibaaDoorWRepsOne
import Derived.Test.YtfbadcjojkgibaaDoorWInv
import Derived.Test.YtfbadcjojkgibaaDoorWInvWords
import Derived.Test.YtfbadcjojkgibaaDoorWGuard
import Derived.Test.YtfbadcjojkgibaaDoorWNEv
import Derived.Test.YtfbadcjojkgibaaDoorWMore
namespace Go.Proofs.YtfbadcjojkgibaaDoor.N
open Go.RowKit Go.Proofs.YtfbadcjojkgibaaDoorW.PrintWords Go.Proofs.YtfbadcjojkgibaaDoorW.PrintLast Go.Proofs.YtfbadcjojkgibaaDoorW.PrintMore
attribute [local go_sem] max2_int min2_int max_two min_two max_three min_three max_four min_four   -- for this text's walks alone
set_option linter.unusedVariables false
set_option linter.unusedSimpArgs false



def errW : Option Int → Value
  | none => .nilIface
  | some c => .iface 0 (.int .i64 c)
theorem errW_none : errW none = .nilIface := rfl
theorem errW_some (c : Int) : errW (some c) = .iface 0 (.int .i64 c) := rfl

theorem info5 : (Tryd.prog.info? 5).map (fun i => (i.zero, i.size, i.bytes)) = some (some (.int .u8 0), 1, 1) := by kernel_rfl
theorem info9 : (Tryd.prog.info? 9).map (fun i => (i.zero, i.size, i.bytes)) = some (some (.string ⟨#[]⟩), 1, 16) := by kernel_rfl
-- the values' own types

end Go.Proofs.YtfbadcjojkgibaaDoor.N

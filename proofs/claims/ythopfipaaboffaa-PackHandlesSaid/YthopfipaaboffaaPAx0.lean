-- Written by wip/hprint/hprint.py (a program of this session, over the print): not typed by hand
import Derived.Test.YthopfipaaboffaaProg
import Derived.Below
import Derived.Deep.Draws
import Derived.Deep.AppendLies
import Derived.Maps.AppendAt
import Derived.OwnWalk
import Derived.Laws.BytesArg
import Derived.Laws.MakeOwn
import Derived.Laws.OwnMore
import Derived.Deep.OwnRows
import Derived.Tactics
import Derived.Lib.ConvBytes
import Derived.Laws.Slices
import Derived.WalkKit
import Derived.KernelRfl
import Derived.RowKit3
import Derived.Deep.LoopGhost
import Derived.Deep.QuietTactic
import Derived.BigQuiet
import Derived.WideLaws
import Derived.Deep.DeepCutAuto
import Derived.Deep.CutBlock
import Derived.Deep.RegionHeld3
import Derived.Laws.Rows
import Derived.Lib.AppendStr
import Derived.ArgAppend
import Derived.Laws.IdiomCopy
import Derived.OrdersHeld
import Derived.Laws.BitsLemmas
import Derived.RowKit
import Derived.Test.YthopfipaaboffaaWWords
import Derived.Test.YthopfipaaboffaaWLast
import Derived.Test.YthopfipaaboffaaWTab
import Derived.Test.YthopfipaaboffaaWFour
import Derived.Test.YthopfipaaboffaaWQPut
import Derived.Test.YthopfipaaboffaaWApart
import Derived.Test.YthopfipaaboffaaWArr
import Derived.Test.YthopfipaaboffaaWZeros
import Derived.Test.YthopfipaaboffaaWFoot
import Derived.Test.YthopfipaaboffaaWKept
import Derived.Test.YthopfipaaboffaaWShare
import Derived.Test.YthopfipaaboffaaWN
import Derived.Test.YthopfipaaboffaaWFootNe
import Derived.Test.YthopfipaaboffaaWAt
import Derived.Test.YthopfipaaboffaaWEqStruct
import Derived.Test.YthopfipaaboffaaWRepsOne
import Derived.Test.YthopfipaaboffaaWInv
import Derived.Test.YthopfipaaboffaaWInvWords
import Derived.Test.YthopfipaaboffaaWGuard
import Derived.Test.YthopfipaaboffaaWNEv
import Derived.Test.YthopfipaaboffaaWMore
import Derived.Test.YthopfipaaboffaaH
namespace Go.Proofs.Ythopfipaaboffaa.PA
open Go.RowKit Go.Proofs.YthopfipaaboffaaW.PrintWords Go.Proofs.YthopfipaaboffaaW.PrintLast Go.Proofs.YthopfipaaboffaaW.PrintMore
attribute [local go_sem] max2_int min2_int max_two min_two max_three min_three max_four min_four   -- for this text's walks alone
open Go.Proofs.YthopfipaaboffaaH
set_option linter.unusedVariables false
set_option linter.unusedSimpArgs false



def errW : Option Int → Value
  | none => .nilIface
  | some c => .iface 0 (.int .i64 c)
theorem errW_none : errW none = .nilIface := rfl
theorem errW_some (c : Int) : errW (some c) = .iface 0 (.int .i64 c) := rfl

theorem info3 : (Try.prog.info? 3).map (fun i => (i.zero, i.size, i.bytes)) = some (some (.int .i64 0), 1, 8) := by kernel_rfl
theorem info5 : (Try.prog.info? 5).map (fun i => (i.zero, i.size, i.bytes)) = some (some (.int .u8 0), 1, 1) := by kernel_rfl
-- the values' own types

end Go.Proofs.Ythopfipaaboffaa.PA

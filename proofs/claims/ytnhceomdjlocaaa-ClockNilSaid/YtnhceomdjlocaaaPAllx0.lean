-- Written by a program of the session.
import Derived.Test.YtnhceomdjlocaaaProg
import Derived.Below
import Derived.Deep.Draws
import Derived.Deep.AppendLies
import Derived.Maps.AppendAt
import Derived.OwnWalk
import Derived.Laws.BytesArg
import Derived.Laws.MakeOwn
import Derived.Laws.OwnMore
import Derived.Deep.OwnRows
import Derived.Tactics
import Derived.Lib.ConvBytes
import Derived.Laws.Slices
import Derived.WalkKit
import Derived.KernelRfl
import Derived.RowKit3
import Derived.Deep.LoopGhost
import Derived.Deep.QuietTactic
import Derived.BigQuiet
import Derived.WideLaws
import Derived.Deep.DeepCutAuto
import Derived.Deep.CutBlock
import Derived.Deep.RegionHeld3
import Derived.Laws.Rows
import Derived.Lib.AppendStr
import Derived.ArgAppend
import Derived.Laws.IdiomCopy
import Derived.OrdersHeld
import Derived.Laws.BitsLemmas
import Derived.RowKit
import Derived.Test.YtnhceomdjlocaaaWWords
import Derived.Test.YtnhceomdjlocaaaWLast
import Derived.Test.YtnhceomdjlocaaaWTab
import Derived.Test.YtnhceomdjlocaaaWFour
import Derived.Test.YtnhceomdjlocaaaWQPut
import Derived.Test.YtnhceomdjlocaaaWApart
import Derived.Test.YtnhceomdjlocaaaWArr
import Derived.Test.YtnhceomdjlocaaaWZeros
import Derived.Test.YtnhceomdjlocaaaWFoot
import Derived.Test.YtnhceomdjlocaaaWKept
import Derived.Test.YtnhceomdjlocaaaWShare
import Derived.Test.YtnhceomdjlocaaaWN
import Derived.Test.YtnhceomdjlocaaaWFootNe
import Derived.Test.YtnhceomdjlocaaaWAt
import Derived.Test.YtnhceomdjlocaaaWEqStruct
import Derived.Test.YtnhceomdjlocaaaWRepsOne
import Derived.Test.YtnhceomdjlocaaaWInv
import Derived.Test.YtnhceomdjlocaaaWInvWords
import Derived.Test.YtnhceomdjlocaaaWGuard
import Derived.Test.YtnhceomdjlocaaaWNEv
import Derived.Test.YtnhceomdjlocaaaWMore
namespace Go.Proofs.Ytnhceomdjlocaaa.PAll
open Go.RowKit Go.Proofs.YtnhceomdjlocaaaW.PrintWords Go.Proofs.YtnhceomdjlocaaaW.PrintLast Go.Proofs.YtnhceomdjlocaaaW.PrintMore
attribute [local go_sem] max2_int min2_int max_two min_two max_three min_three max_four min_four   -- for this text's walks alone
set_option linter.unusedVariables false
set_option linter.unusedSimpArgs false



def errW : Option Int → Value
  | none => .nilIface
  | some c => .iface 0 (.int .i64 c)
theorem errW_none : errW none = .nilIface := rfl
theorem errW_some (c : Int) : errW (some c) = .iface 0 (.int .i64 c) := rfl

theorem info3 : (Try.prog.info? 3).map (fun i => (i.zero, i.size, i.bytes)) = some (some (.int .i64 0), 1, 8) := by kernel_rfl
-- the values' own types

end Go.Proofs.Ytnhceomdjlocaaa.PAll

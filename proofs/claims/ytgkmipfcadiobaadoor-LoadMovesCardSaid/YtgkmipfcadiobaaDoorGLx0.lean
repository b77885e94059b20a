-- Written by a program of this session's (giv.py), which runs the kit's print with contracts of this claim's own for some functions.
import Derived.Test.YtgkmipfcadiobaaDoorProg
import Derived.Test.YtgkmipfcadiobaaDoorLG
import Derived.Test.YtgkmipfcadiobaaDoorGAx0
import Derived.Test.YtgkmipfcadiobaaDoorGAx1
import Derived.Below
import Derived.Test.YtgkmipfcadiobaaDoorWRepsOne
import Derived.Deep.Draws
import Derived.Deep.AppendLies
import Derived.Maps.AppendAt
import Derived.OwnWalk
import Derived.Laws.BytesArg
import Derived.Laws.MakeOwn
import Derived.Laws.OwnMore
import Derived.Deep.OwnRows
import Derived.Tactics
import Derived.Lib.ConvBytes
import Derived.Laws.Slices
import Derived.WalkKit
import Derived.KernelRfl
import Derived.RowKit3
import Derived.Deep.LoopGhost
import Derived.Deep.QuietTactic
import Derived.BigQuiet
import Derived.WideLaws
import Derived.Deep.DeepCutAuto
import Derived.Deep.CutBlock
import Derived.Deep.RegionHeld3
import Derived.Laws.Rows
import Derived.Lib.AppendStr
import Derived.ArgAppend
import Derived.Laws.IdiomCopy
import Derived.OrdersHeld
import Derived.Laws.BitsLemmas
import Derived.RowKit
import Derived.Test.YtgkmipfcadiobaaDoorWWords
import Derived.Test.YtgkmipfcadiobaaDoorWLast
import Derived.Test.YtgkmipfcadiobaaDoorWTab
import Derived.Test.YtgkmipfcadiobaaDoorWQPut
import Derived.Test.YtgkmipfcadiobaaDoorWApart
import Derived.Test.YtgkmipfcadiobaaDoorWArr
import Derived.Test.YtgkmipfcadiobaaDoorWZeros
import Derived.Test.YtgkmipfcadiobaaDoorWFoot
import Derived.Test.YtgkmipfcadiobaaDoorWKept
import Derived.Test.YtgkmipfcadiobaaDoorWShare
import Derived.Test.YtgkmipfcadiobaaDoorWN
import Derived.Test.YtgkmipfcadiobaaDoorWGuard
import Derived.Test.YtgkmipfcadiobaaDoorWNEv
import Derived.Test.YtgkmipfcadiobaaDoorWMore
namespace Go.Proofs.YtgkmipfcadiobaaDoor.GL
open Go.Proofs.YtgkmipfcadiobaaDoor.GA Go.Proofs.YtgkmipfcadiobaaDoor.GivenT Go.Proofs.YtgkmipfcadiobaaDoor.GivenL Go.Proofs.YtgkmipfcadiobaaDoor Go.Proofs.YtgkmipfcadiobaaDoor.Pl Go.RowKit Go.Proofs.YtgkmipfcadiobaaDoorW.PrintWords Go.Proofs.YtgkmipfcadiobaaDoorW.PrintLast Go.Proofs.YtgkmipfcadiobaaDoorW.PrintMore
attribute [local go_sem] max2_int min2_int max_two min_two max_three min_three max_four min_four   -- for this text's walks alone
set_option linter.unusedVariables false
set_option linter.unusedSimpArgs false



theorem info4 : (Tryd.prog.info? 4).map (fun i => (i.zero, i.size, i.bytes)) = some (some (.bool false), 1, 1) := by kernel_rfl
theorem info38 : (Tryd.prog.info? 38).map (fun i => (i.zero, i.size, i.bytes)) = some (some (.agg #[(.int .i64 0), (.int .i64 0), (.int .u64 0)]), 3, 24) := by kernel_rfl
-- the values' own types
/-! #### struct type 38 -/
end Go.Proofs.YtgkmipfcadiobaaDoor.GL

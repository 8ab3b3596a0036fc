/- NumberPrints: the row's closed facts. No conditions beyond each theorem's own. -/
import Derived.Test.YtepfodmbjojdbaaGreatDoorQ25
set_option linter.all false
namespace Go.Proofs.YtepfodmbjojdbaaGreatDoor
open Go Go.ChangeShapes Go.WideShapes Go.ChangeAt Go.RowKit
theorem np_named : Tryz.pinned.checked.prog.funcNamed Rows.numberPrintsRow.func = some 3 := by kernel_rfl
theorem np_closed : joinedFacts Tryz.pinned.checked.prog 3 Tryz.f3 Rows.numberPrintsSpec Rows.numberPrintsRow = true := by kernel_rfl
end Go.Proofs.YtepfodmbjojdbaaGreatDoor

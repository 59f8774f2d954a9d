/- garboardref12: vectors, fan, Fan, turned. -/
import Derived.Test.YtbnbaokamccmjaaGreatDoorEG
import Derived.Test.YtbnbaokamccmjaaGreatDoorED
set_option linter.unusedVariables false
set_option linter.unusedSimpArgs false
namespace Go.Proofs.YtbnbaokamccmjaaGreatDoor
open Go Go.RowKit
end Go.Proofs.YtbnbaokamccmjaaGreatDoor

/- A trial. No condition. -/
import Derived.Test.YtcfnckccmkjjlaaTab
import Derived.Test.YtcfnckccmkjjlaaLine
import Derived.Test.YtcfnckccmkjjlaaT1
import Derived.Test.YtcfnckccmkjjlaaT3
import Derived.Test.YtcfnckccmkjjlaaT4
import Derived.Test.YtcfnckccmkjjlaaT5
import Derived.Test.YtcfnckccmkjjlaaT7
import Derived.Test.YtcfnckccmkjjlaaT8
set_option linter.unusedSimpArgs false
set_option linter.unusedVariables false
namespace Go.Proofs.Ytcfnckccmkjjlaa
open Go Go.RowKit Go.Proofs.Ytcfnckccmkjjlaa.K Go.Proofs.Ytcfnckccmkjjlaa.M

end Go.Proofs.Ytcfnckccmkjjlaa

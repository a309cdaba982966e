/- How the arguments of a row are opened into what the walks are told. No condition. -/
import Derived.Test.YtnaagmjjnapklaaBase
import Derived.ProofKit
import Derived.OpenShut
import Derived.SizedLaws
import Derived.ChangeOld
namespace Go.Proofs.Ytnaagmjjnapklaa
open Go.ChangeShapes Go.WideShapes Go.ChangeAt Go.RowKit
end Go.Proofs.Ytnaagmjjnapklaa

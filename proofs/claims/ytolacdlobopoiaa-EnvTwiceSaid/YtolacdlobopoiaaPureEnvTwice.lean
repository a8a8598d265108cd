/- To swap twice is nothing; to move or set again is as once: the plain law lies in the walk's text. -/
import Derived.Test.YtolacdlobopoiaaEnvK
namespace Go.Proofs.Ytolacdlobopoiaa.Pure
open Go.RowKit Go.Proofs.Ytolacdlobopoiaa.Num Go.Proofs.YtolacdlobopoiaaW.PrintWords Go.Proofs.YtolacdlobopoiaaW.PrintLast
set_option linter.unusedVariables false
set_option linter.unusedSimpArgs false

theorem EnvTwice : joinerylaw05_EnvTwice.Pure := fun _ _ _ _ _ _ _ _ _ _ _ _ _ _ => rfl

end Go.Proofs.Ytolacdlobopoiaa.Pure

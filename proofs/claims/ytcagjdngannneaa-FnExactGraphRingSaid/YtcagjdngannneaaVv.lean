
import Derived.Test.YtcagjdngannneaaVu
set_option linter.unusedVariables false
set_option linter.unusedSimpArgs false
namespace Go.Proofs.Ytcagjdngannneaa.V
open Go
structure Pk (β : Type) where
  cs : List Value
  x : β
instance {β : Type} [Inhabited β] : Inhabited (Pk β) := ⟨⟨[], default⟩⟩
end Go.Proofs.Ytcagjdngannneaa.V

import Derived.Test.YtgdieejhglhkcaaGreatDoorTuJ2
namespace Go.Proofs.YtgdieejhglhkcaaGreatDoor.MTup
open Go.RowKit Go.Lib Go.Proofs.YtgdieejhglhkcaaGreatDoorW.PrintWords Go.Proofs.YtgdieejhglhkcaaGreatDoorW.PrintLast Go.Proofs.YtgdieejhglhkcaaGreatDoorW.PrintMore
set_option linter.unusedVariables false
set_option linter.unusedSimpArgs false
theorem pin_ {P : Program} {id : Nat} {ops : Array Oper} {Q : Exit → Act → World → Prop} {a : Act} {w : World} (h : ∀ W, W = w → (Code.region id ops true).wp P Q a W) : (Code.region id ops true).wp P Q a w := h w rfl
end Go.Proofs.YtgdieejhglhkcaaGreatDoor.MTup

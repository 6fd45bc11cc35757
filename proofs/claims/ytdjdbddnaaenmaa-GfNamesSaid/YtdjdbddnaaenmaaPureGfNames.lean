/- GfNames: the errors and the limits have their numbers. -/
import Derived.Test.YtdjdbddnaaenmaaPGfNamesx1
namespace Go.Proofs.Ytdjdbddnaaenmaa.Pure
open Go.RowKit Go.Proofs.Ytdjdbddnaaenmaa.PGfNames Go.Proofs.YtdjdbddnaaenmaaW.PrintWords Go.Proofs.YtdjdbddnaaenmaaW.PrintLast
open Go.Proofs.Ytdjdbddnaaenmaa

theorem GfNames : rilllaw01_GfNames.Pure := ⟨60, by decide +kernel⟩

end Go.Proofs.Ytdjdbddnaaenmaa.Pure

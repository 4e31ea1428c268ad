/-
  Noughts.
-/
import Derived.Test.YtaecfcaeopmiaaaDoorBase
namespace Go.Proofs.YtaecfcaeopmiaaaDoor
def zerosB (l : List Int) : Bool := l.all fun x => decide (x = 0)
end Go.Proofs.YtaecfcaeopmiaaaDoor

/-
  Noughts.
-/
import Derived.Test.YtpggbbjhbklamaaBase
namespace Go.Proofs.Ytpggbbjhbklamaa
def zerosB (l : List Int) : Bool := l.all fun x => decide (x = 0)
end Go.Proofs.Ytpggbbjhbklamaa

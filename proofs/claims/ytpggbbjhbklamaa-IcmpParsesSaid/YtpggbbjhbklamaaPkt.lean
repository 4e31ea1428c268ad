/-
  api.Packet in memory.
-/
import Derived.Test.YtpggbbjhbklamaaBlk
namespace Go.Proofs.Ytpggbbjhbklamaa
open Go.RowKit

end Go.Proofs.Ytpggbbjhbklamaa

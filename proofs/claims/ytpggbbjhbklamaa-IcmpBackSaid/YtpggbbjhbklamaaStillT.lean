/-
  A region of open order that looks first, and ends in a tail of one order.
-/
import Derived.Test.YtpggbbjhbklamaaBase
import Derived.StillTailTactics
namespace Go.Proofs.Ytpggbbjhbklamaa
open Go.RowKit
theorem wp_still_tail' {P : Program} {id : Nat} {Q : Exit → Act → World → Prop} {a : Act} {w : World} {l : List Oper} (n : Nat) (hm : P.follows .mixedOrders = true) (hB : Region.lexTailB .any l.toArray n = true)
    (h : ∀ w2, Same w w2 → wpStill P l.toArray w2 (fun a' => wpList P l.toArray Q (l.drop n) a' w2) (l.take n) a) : (Code.region id l.toArray true).wp P Q a w :=
  wp_region_still_tail n hm hB (h _ (Same.drew w))
end Go.Proofs.Ytpggbbjhbklamaa

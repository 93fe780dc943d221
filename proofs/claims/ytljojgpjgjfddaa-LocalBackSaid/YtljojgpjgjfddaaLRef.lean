/- The contracts of fairlinkref22: ends, Fits, At, Exact. -/
import Derived.Test.YtljojgpjgjfddaaLRange
import Derived.Test.YtljojgpjgjfddaaR14b
namespace Go.Proofs.Ytljojgpjgjfddaa
open Go.RowKit Go.Maps
set_option linter.unusedVariables false

/-- What ends answers: the two nodes, and whether there is such a channel. -/
def endsR (cs : List Cb) (c : Int) : Int × Int × Bool := if existsN cs.length c then ((chEnds cs c).1, (chEnds cs c).2, true) else (0, 0, false)

def atR (cs : List Cb) (c node : Int) : Bool := (endsR cs c).2.2 && ((endsR cs c).1 == node || (endsR cs c).2.1 == node)
def fitsR (cs : List Cb) (f t n node : Int) : Bool := (endsR cs f).2.2 && (endsR cs t).2.2 && ((endsR cs f).2.1 == node) && ((endsR cs t).1 == node) && (n == node)
end Go.Proofs.Ytljojgpjgjfddaa

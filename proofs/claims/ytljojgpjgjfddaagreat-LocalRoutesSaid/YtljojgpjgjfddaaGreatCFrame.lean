/- The frame's words, where the Local texts are there. -/
import Derived.Test.YtljojgpjgjfddaaGreatPFrame
import Derived.Test.YtljojgpjgjfddaaGreatCBase

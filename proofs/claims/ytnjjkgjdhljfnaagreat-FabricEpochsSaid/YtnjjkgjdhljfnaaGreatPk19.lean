/- Part 19. -/
import Derived.Test.YtnjjkgjdhljfnaaGreatPk5
import Derived.Test.YtnjjkgjdhljfnaaGreatPk18
set_option maxRecDepth 100000
set_option maxHeartbeats 16000000
set_option linter.unusedVariables false
set_option linter.unusedSimpArgs false
namespace Go.Proofs.YtnjjkgjdhljfnaaGreat
open Go.RowKit Go.Maps
end Go.Proofs.YtnjjkgjdhljfnaaGreat

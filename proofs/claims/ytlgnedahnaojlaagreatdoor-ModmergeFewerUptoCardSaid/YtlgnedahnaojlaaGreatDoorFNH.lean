/- Changes of different fields go together: plainly. No program in sight. -/
import Derived.Test.YtlgnedahnaojlaaGreatDoorFNC
namespace Go.Proofs.YtlgnedahnaojlaaGreatDoor

end Go.Proofs.YtlgnedahnaojlaaGreatDoor


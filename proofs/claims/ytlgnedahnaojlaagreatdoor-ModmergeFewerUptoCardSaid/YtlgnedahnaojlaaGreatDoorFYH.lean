/- A merge of modules that are small is small. -/
import Derived.Test.YtlgnedahnaojlaaGreatDoorFYC
namespace Go.Proofs.YtlgnedahnaojlaaGreatDoor

abbrev SmN (m : OMod) : Prop := SmM m ∧ ∀ d ∈ m.decls, nodesN d.body ≤ 1000000
end Go.Proofs.YtlgnedahnaojlaaGreatDoor


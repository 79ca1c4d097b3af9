/- A merge of modules that are small is small. -/
import Derived.Test.YtdpnfkjafhbndaaGreatDoorRYC
namespace Go.Proofs.YtdpnfkjafhbndaaGreatDoor
abbrev SmN (m:OMod):Prop:=SmM m∧∀ d∈m.decls,nodesN d.body≤1000000
end Go.Proofs.YtdpnfkjafhbndaaGreatDoor


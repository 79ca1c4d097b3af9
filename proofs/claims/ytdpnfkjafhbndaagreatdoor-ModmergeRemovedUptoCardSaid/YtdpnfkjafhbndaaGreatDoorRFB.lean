/- change, the closure of the law ModmergeFields, with each of the three functions. -/
import Derived.Test.YtdpnfkjafhbndaaGreatDoorRFA
namespace Go.Proofs.YtdpnfkjafhbndaaGreatDoor
open Go.RowKit Go.Shelf
attribute [local go_sem] Oper.semAt_some
theorem grown_row {W0 w1:World} {v1:Value} {n k:Nat} {xs:List Value} (hk:k < n) (hA0:Bw W0 (W0.alloc (.cells #[] 69))) (h:w1.ownsRow W0.heap.size 69 11 v1 (0 + n) ([] ++ xs)) (hg:(W0.alloc (.cells #[] 69)).grownBy w1 (Value.slice (some ⟨W0.heap.size,0,none⟩) 0 0).ownBlock) :
  ∃ gb c1,v1 = .slice (some ⟨gb,0,none⟩) n c1∧Hid (w1.ownsRow W0.heap.size 69 11 (.slice (some ⟨gb,0,none⟩) n c1) n xs∧W0.heap.size≤gb∧gb < w1.heap.size∧(∀ i,w1.frozen? ⟨gb,i,none⟩ = false)∧n≤c1∧c1≤9223372036854775807)∧Bw W0 w1:=by
 rw [Nat.zero_add,List.nil_append] at h;obtain ⟨a1,c1,rfl⟩:=owns_val h;obtain ⟨gb,cur,rfl,-,h1,h2,h3,h4,h5,-⟩:=owns_cells h (by omega);exact ⟨gb,c1,rfl,⟨h,h1,h2,h3,h4,h5⟩,hA0.grown hg (by simp) (fun k hk => by cases hk;exact Nat.le_refl _)⟩
end Go.Proofs.YtdpnfkjafhbndaaGreatDoor


/- A merge of modules that are small is small. -/
import Derived.Test.YtlgnedahnaojlaaGreatDoorUYC
namespace Go.Proofs.YtlgnedahnaojlaaGreatDoor

theorem namesM_sm {b l r : List ByteArray} (hb : ∀ s ∈ b, s.size ≤ 40000) (hl : ∀ s ∈ l, s.size ≤ 40000) (hr : ∀ s ∈ r, s.size ≤ 40000) : ∀ s ∈ namesM b l r, s.size ≤ 40000 := by
 intro s hs; unfold namesM at hs; split at hs
 ·exact hl s hs
 ·split at hs
  ·exact hr s hs
  ·simp only [List.mem_cons, List.not_mem_nil, or_false] at hs
   rcases hs with rfl | rfl | rfl
   ·exact sAt_size hl 0
   ·exact sAt_size hb 0
   ·exact sAt_size hr 0
theorem namesM_len {b l r : List ByteArray} (hl : l.length ≤ 1000000) (hr : r.length ≤ 1000000) : (namesM b l r).length ≤ 1000000 := by
 unfold namesM; split
 ·exact hl
 ·split
  ·exact hr
  ·simp
theorem bothM_sm {b l r : ODecl} (hb : SmD b ∧ nodesN b.body ≤ 1000000) (hl : SmD l ∧ nodesN l.body ≤ 1000000) (hr : SmD r ∧ nodesN r.body ≤ 1000000) : SmD (bothM b l r) :=
 ⟨namesM_sm hb.1.names hl.1.names hr.1.names, namesM_len hl.1.len hr.1.len, mergeX_sm b.body l.body r.body hb.1.body hl.1.body hr.1.body, by
  have := mergeX_nodes b.body l.body r.body; have h1 := hb.2; have h2 := hl.2; have h3 := hr.2; show nodesN (mergeX b.body l.body r.body) ≤ _
  omega⟩
theorem doubt_sm {d : ODecl} (h : SmD d) : SmD (doubtD d) := ⟨h.names, h.len, h.body, h.nodes⟩
theorem oneD_sm {b : Option ODecl} {d e : ODecl} (h : oneD b d = some e) (hd : SmD d) : SmD e := by
 rcases oneD_some h with rfl | rfl
 ·exact hd
 ·exact doubt_sm hd
abbrev SmN (m : OMod) : Prop := SmM m ∧ ∀ d ∈ m.decls, nodesN d.body ≤ 1000000
theorem find_sm {m : OMod} (h : SmN m) {i : Int} {d : ODecl} (hf : findD m.decls i = some d) : SmD d ∧ nodesN d.body ≤ 1000000 := ⟨h.1.decls d (findD_id hf).2, h.2 d (findD_id hf).2⟩
theorem mergeM_sm {b l r : OMod} (hb : SmN b) (hl : SmN l) (hr : SmN r) (h : mergeMErr b l r = 0) : SmN (mergeM b l r) := by
 have e : mergeM b l r = outM b l r := by unfold mergeM; rw [h, if_pos rfl]
 have hv := valM (out_valid h); obtain ⟨_, _, _, _, _, hu, _⟩ := mergeMErr_inv h; rw [e]
 have hd : ∀ d ∈ (outM b l r).decls, SmD d := fun d hd => by
  have h2 := (mem_declsM.1 hd).2
  cases hfl : findD l.decls d.id with
  | none =>
   cases hfr : findD r.decls d.id with
   | none => rw [hfl, hfr] at h2; cases h2
   | some y =>
    rw [hfl, hfr] at h2; exact oneD_sm h2 (find_sm hr hfr).1
  | some x =>
   cases hfr : findD r.decls d.id with
   | none =>
    rw [hfl, hfr] at h2; exact oneD_sm h2 (find_sm hl hfl).1
   | some y =>
    rw [hfl, hfr] at h2
    injection h2 with h2
    rw [← h2]; refine bothM_sm ?_ (find_sm hl hfl) (find_sm hr hfr)
    cases hfb : findD b.decls d.id with
    | none => exact old_sm
    | some z => exact find_sm hb hfb
 have hdl : (outM b l r).decls.length ≤ 100 := hv.dlen; refine ⟨⟨hb.1.label, fun s hs => ?_, by show (usesM b.uses l.uses r.uses).length ≤ _; omega, hd, by omega⟩, fun d hd' => ?_⟩
 ·rcases (mem_usesM.1 hs).1 with h1 | h1
  ·exact hl.1.uses s h1
  ·exact hr.1.uses s h1
 ·have := (exprErr_iff.1 (decl_ok (hv.decl d hd')).2.2.2).1
  omega
end Go.Proofs.YtlgnedahnaojlaaGreatDoor


/- Changes of different fields go together: plainly. No program in sight. -/
import Derived.Test.YtlgnedahnaojlaaGreatDoorUNC
namespace Go.Proofs.YtlgnedahnaojlaaGreatDoor

def setD (m : OMod) (k : Nat) (e : ODecl) : OMod := ⟨m.label, m.uses, m.decls.set k e⟩
def nameD (d : ODecl) (s : ByteArray) : ODecl := ⟨d.id, d.kind, d.pub, [s], d.doubt, d.body⟩
def bodyD (d : ODecl) (x : Ex) (p : Bool) : ODecl := ⟨d.id, d.kind, p, d.names, d.doubt, x⟩
theorem ids_set {l : List ODecl} {k : Nat} {d e : ODecl} (hd : l[k]? = some d) (he : e.id = d.id) (hp : l.Pairwise fun a b => a.id < b.id) : (l.set k e).Pairwise fun a b => a.id < b.id := by
 obtain ⟨hk, rfl⟩ := List.getElem?_eq_some_iff.1 hd; have h1 : (l.map (·.id)).Pairwise (· < ·) := List.pairwise_map.2 hp
 have h2 : (l.set k e).map (·.id) = l.map (·.id) := by
  rw [List.map_set, he]; apply List.ext_getElem?
  intro j; rw [List.getElem?_set]; split
  ·rename_i h; subst h; simp [hk]
  ·rfl
 rw [← h2] at h1; exact List.pairwise_map.1 h1
theorem find_set {l : List ODecl} {k : Nat} {d e : ODecl} (hd : l[k]? = some d) (he : e.id = d.id) (hp : l.Pairwise fun a b => a.id < b.id) (i : Int) : findD (l.set k e) i = if i = d.id then some e else findD l i := by
 have hp' := ids_set hd he hp; obtain ⟨hk, hdk⟩ := List.getElem?_eq_some_iff.1 hd; split
 ·rename_i h
  rw [h, ← he]; exact findD_of hp' (List.mem_iff_getElem.2 ⟨k, by simpa using hk, by simp⟩)
 ·rename_i h
  cases hf : findD l i with
  | some x =>
   obtain ⟨g1, g2⟩ := findD_id hf; obtain ⟨j, hj, rfl⟩ := List.mem_iff_getElem.1 g2; have hjk : k ≠ j := fun e => by subst e; rw [hdk] at g1; omega
   rw [← g1]; refine findD_of hp' (List.mem_iff_getElem.2 ⟨j, by simpa using hj, ?_⟩); rw [List.getElem_set_ne hjk]
  | none =>
   refine findD_not ?_; rintro ⟨x, hx, hxi⟩
   rcases List.mem_or_eq_of_mem_set hx with hx | hx
   ·exact findD_none hf x hx hxi
   ·rw [hx, he] at hxi; exact h hxi.symm
theorem set_mem {l : List ODecl} {k : Nat} {d e : ODecl} (hd : l[k]? = some d) : e ∈ l.set k e := by
 obtain ⟨hk, _⟩ := List.getElem?_eq_some_iff.1 hd; exact List.mem_iff_getElem.2 ⟨k, by simpa using hk, by simp⟩
theorem bothM_same (x : ODecl) : bothM x x x = x := bothM_both x x
theorem fields_merge {b : OMod} {k : Nat} {d : ODecl} {s : ByteArray} {x : Ex} {p : Bool} (hb : modErr b = 0) (hd : b.decls[k]? = some d) (h1 : modErr (setD b k (nameD d s)) = 0) (h2 : modErr (setD b k (bodyD d x p)) = 0) :
    modErr (setD b k (nameD (bodyD d x p) s)) = 0 ∧ (mergeMErr b (setD b k (nameD d s)) (setD b k (bodyD d x p)) = 0 ∧ mergeM b (setD b k (nameD d s)) (setD b k (bodyD d x p)) = setD b k (nameD (bodyD d x p) s)) ∧
    (mergeMErr b (setD b k (bodyD d x p)) (setD b k (nameD d s)) = 0 ∧ mergeM b (setD b k (bodyD d x p)) (setD b k (nameD d s)) = setD b k (nameD (bodyD d x p) s)) := by
  have V := valM hb
  have V1 := valM h1
  have V2 := valM h2
  have hp := V.ids
  have D1 := declErr_iff.1 (V1.decl _ (set_mem hd))
  have D2 := declErr_iff.1 (V2.decl _ (set_mem hd))
  have D3 : DeclOk b.label (nameD (bodyD d x p) s) := ⟨D2.id1, D2.id2, D2.k1, D2.k2, D1.names, D2.body, D2.sym, D2.free, D2.refs⟩
  have hw : modErr (setD b k (nameD (bodyD d x p) s)) = 0 := by
    refine valM_mod ⟨V.label, V.uses, V.ulen, V.ulab, V.uerr, by show (b.decls.set k _).length ≤ 100; rw [List.length_set]; exact V.dlen, ids_set hd rfl hp, fun y hy => ?_⟩
    have hy : y ∈ b.decls.set k (nameD (bodyD d x p) s) := hy
    rcases List.mem_or_eq_of_mem_set hy with hy | hy
    · exact V.decl y hy
    · rw [hy]; exact declErr_iff.2 D3
  have hx : exprErr x = 0 := D2.body
  have hdb : exprErr d.body = 0 := (find_ok hb (i := d.id) (findD_of hp (List.mem_of_getElem? hd))).1
  have hfd : findD b.decls d.id = some d := findD_of hp (List.mem_of_getElem? hd)
  have F1 := fun i => find_set (e := nameD d s) hd rfl hp i
  have F2 := fun i => find_set (e := bodyD d x p) hd rfl hp i
  have F3 := fun i => find_set (e := nameD (bodyD d x p) s) hd rfl hp i
  have hids : ∀ y ∈ (setD b k (nameD (bodyD d x p) s)).decls, ∃ z ∈ b.decls, z.id = y.id := by
    intro y hy
    rcases List.mem_or_eq_of_mem_set (show y ∈ b.decls.set k (nameD (bodyD d x p) s) from hy) with hy | hy
    · exact ⟨y, hy, rfl⟩
    · exact ⟨d, List.mem_of_getElem? hd, by rw [hy]; rfl⟩
  have other : ∀ i, mergeD (findD b.decls i) (findD b.decls i) (findD b.decls i) = findD b.decls i ∧ mergeDErr (findD b.decls i) (findD b.decls i) (findD b.decls i) = 0 := by
    intro i
    cases hf : findD b.decls i with
    | none => exact ⟨rfl, rfl⟩
    | some y =>
      refine ⟨?_, ?_⟩
      · show some (bothM y y y) = some y
        rw [bothM_same]
      · show bothErr y y y = 0
        have hy := (find_ok hb hf).1
        exact bothErr_of (by rw [sameSs_self]; rfl) (mergeXErr_of hy hy hy (by rw [mergeX_both]; exact hy))
  refine ⟨hw, merge_is hb h1 h2 hw rfl rfl rfl (uses_left _ V.uses) (fun i => ?_) (fun y hy => ((idsM_spec _ _ _).2 _).2 (.inl (hids y hy))), merge_is hb h2 h1 hw rfl rfl rfl (uses_left _ V.uses) (fun i => ?_) (fun y hy => ((idsM_spec _ _ _).2 _).2 (.inl (hids y hy)))⟩
  · show mergeD (findD b.decls i) (findD (b.decls.set k (nameD d s)) i) (findD (b.decls.set k (bodyD d x p)) i) = findD (b.decls.set k (nameD (bodyD d x p) s)) i ∧ mergeDErr (findD b.decls i) (findD (b.decls.set k (nameD d s)) i) (findD (b.decls.set k (bodyD d x p)) i) = 0
    rw [F1, F2, F3]
    by_cases hi : i = d.id
    · rw [if_pos hi, if_pos hi, if_pos hi, hi, hfd]
      refine ⟨?_, ?_⟩
      · show some (bothM d (nameD d s) (bodyD d x p)) = some (nameD (bodyD d x p) s)
        congr 1
        obtain ⟨i', k', p', n', q', b'⟩ := d
        simp only [bothM, nameD, bodyD, mergeX_left, namesM_right, ODecl.mk.injEq, true_and, and_true]
        refine ⟨by unfold kindM; simp, by cases p' <;> cases p <;> rfl, ?_⟩
        unfold kindC; cases q' <;> simp [truthB]
      · show bothErr d (nameD d s) (bodyD d x p) = 0
        exact bothErr_of (by show (sameSs [s] d.names || sameSs d.names d.names || sameSs [s] d.names) = true; rw [sameSs_self]; simp) (mergeXErr_of hdb hdb hx (by show exprErr (mergeX d.body d.body x) = 0; rw [mergeX_left]; exact hx))
    · rw [if_neg hi, if_neg hi, if_neg hi]
      exact other i
  · show mergeD (findD b.decls i) (findD (b.decls.set k (bodyD d x p)) i) (findD (b.decls.set k (nameD d s)) i) = findD (b.decls.set k (nameD (bodyD d x p) s)) i ∧ mergeDErr (findD b.decls i) (findD (b.decls.set k (bodyD d x p)) i) (findD (b.decls.set k (nameD d s)) i) = 0
    rw [F1, F2, F3]
    by_cases hi : i = d.id
    · rw [if_pos hi, if_pos hi, if_pos hi, hi, hfd]
      refine ⟨?_, ?_⟩
      · show some (bothM d (bodyD d x p) (nameD d s)) = some (nameD (bodyD d x p) s)
        congr 1
        obtain ⟨i', k', p', n', q', b'⟩ := d
        simp only [bothM, nameD, bodyD, mergeX_right, namesM_left, ODecl.mk.injEq, true_and, and_true]
        refine ⟨by unfold kindM; simp, by cases p' <;> cases p <;> rfl, ?_⟩
        unfold kindC; cases q' <;> simp [truthB]
      · show bothErr d (bodyD d x p) (nameD d s) = 0
        exact bothErr_of (by show (sameSs d.names [s] || sameSs [s] d.names || sameSs d.names d.names) = true; rw [sameSs_self]; simp) (mergeXErr_of hdb hx hdb (by show exprErr (mergeX d.body x d.body) = 0; rw [mergeX_right]; exact hx))
    · rw [if_neg hi, if_neg hi, if_neg hi]
      exact other i
theorem fields_spots {b : OMod} {k : Nat} {d : ODecl} {s : ByteArray} {x : Ex} {p : Bool} (hb : cleanB b = true) :
    ∀ q ∈ spotsL b.label (b.decls.set k (nameD (bodyD d x p) s)), q.kind ≠ 1 ∧ (q.kind = 2 → confX x ≠ 0) := by
  obtain ⟨_, hc⟩ := cleanB_ok hb
  intro q hq
  unfold spotsL spotsTo at hq
  rw [List.mem_flatMap] at hq
  obtain ⟨i, hi, hq⟩ := hq
  rw [List.mem_range] at hi
  have he := dAt_of (List.getElem?_eq_getElem hi)
  have hmem := List.getElem_mem hi
  rw [he] at hq
  generalize (b.decls.set k (nameD (bodyD d x p) s))[i] = e at *
  have hcase : CleanD e ∨ (e.names.length = 1 ∧ e.body = x) := by
    rcases List.mem_or_eq_of_mem_set hmem with h | h
    · exact .inl (hc e h)
    · exact .inr (by rw [h]; exact ⟨rfl, rfl⟩)
  have hn : e.names.length ≠ 3 := by rcases hcase with h | h; have := h.names; omega; omega
  unfold spotsD at hq
  rw [if_neg hn, List.nil_append, List.mem_append, List.mem_append] at hq
  rcases hq with (hq | hq) | hq
  · obtain ⟨j, hj, rfl⟩ := List.mem_map.1 hq
    refine ⟨by show (2 : Int) ≠ 1; omega, fun _ => ?_⟩
    rw [List.mem_range] at hj
    rcases hcase with h | h
    · have := h.body; omega
    · rw [← h.2]; omega
  · split at hq
    · rw [List.mem_singleton] at hq
      rw [hq]
      exact ⟨by show (3 : Int) ≠ 1; omega, fun h => absurd h (by show ¬ (3 : Int) = 2; omega)⟩
    · cases hq
  · split at hq
    · rw [List.mem_singleton] at hq
      rw [hq]
      exact ⟨by show (4 : Int) ≠ 1; omega, fun h => absurd h (by show ¬ (4 : Int) = 2; omega)⟩
    · cases hq
end Go.Proofs.YtlgnedahnaojlaaGreatDoor


/- The map of files' data, plainly; its keys in order. -/
import Derived.Test.YtidkpnabdfiilaaGreatDoorQ21
import Derived.Sort.KeysCollected
namespace Go.Proofs.YtidkpnabdfiilaaGreatDoor
open Go.RowKit
open Go.Maps (Keyed)

def stepD (m : List UInt8 → Option Value) (f : OFile) : List UInt8 → Option Value := fun x => if x = f.path.data.toList then some (.string f.data) else m x
def dataM (fs : List OFile) : List UInt8 → Option Value := fs.foldl stepD (fun _ => none)
theorem dataM_snoc (fs : List OFile) (f : OFile) : (fun x => if x = f.path.data.toList then some (Value.string f.data) else dataM fs x) = dataM (fs ++ [f]) := by
  rw [dataM, dataM, List.foldl_append]; rfl
theorem dataM_from : ∀ (fs : List OFile) (m : List UInt8 → Option Value) (x : List UInt8), (fs.foldl stepD m x).isSome = (inPaths fs x || (m x).isSome)
  | [], m, x => by simp [inPaths]
  | f :: r, m, x => by
    rw [List.foldl_cons, dataM_from r]
    unfold inPaths stepD
    rw [List.any_cons]
    by_cases h : x = f.path.data.toList
    · subst h; simp
    · have : (f.path.data.toList == x) = false := by rw [beq_eq_false_iff_ne]; exact fun e => h e.symm
      rw [if_neg h, this, Bool.false_or]
theorem dataM_has (fs : List OFile) (x : List UInt8) : (dataM fs x).isSome = inPaths fs x := by
  rw [dataM, dataM_from]; simp
theorem dataM_skip : ∀ (fs : List OFile) (m : List UInt8 → Option Value) (x : List UInt8), (∀ f ∈ fs, f.path.data.toList ≠ x) → fs.foldl stepD m x = m x
  | [], _, _, _ => rfl
  | f :: r, m, x, h => by
    rw [List.foldl_cons, dataM_skip r _ x (fun g hg => h g (List.mem_cons_of_mem _ hg)), stepD, if_neg (fun e => h f (List.mem_cons_self ..) e.symm)]
theorem dataM_at {fs : List OFile} (hp : fs.Pairwise lessF) {k : Nat} {f : OFile} (hf : fs[k]? = some f) : dataM fs f.path.data.toList = some (.string f.data) := by
  obtain ⟨hk, e⟩ := List.getElem?_eq_some_iff.1 hf
  have hs : fs = fs.take k ++ f :: fs.drop (k + 1) := by
    rw [← e, ← List.drop_eq_getElem_cons hk, List.take_append_drop]
  rw [hs] at hp ⊢
  rw [dataM, List.foldl_append, List.foldl_cons, dataM_skip]
  · exact if_pos rfl
  · intro g hg
    have := (List.pairwise_append.1 hp).2.1
    cases this with
    | cons h1 _ => exact (lessF_ne (h1 g hg)).symm
theorem less_lt : ∀ (x y : List UInt8), Op.bytesLess x y = true → x < y
  | [], [], h => by simp [Op.bytesLess] at h
  | _ :: _, [], h => by simp [Op.bytesLess] at h
  | [], _ :: _, _ => by simp
  | a :: x, b :: y, h => by
    rw [Op.bytesLess] at h
    rw [List.cons_lt_cons_iff]
    have ih := less_lt x y
    by_cases h1 : a < b
    · exact .inl h1
    · by_cases h2 : a = b
      · subst h2
        exact .inr ⟨rfl, ih (by simpa [h1] using h)⟩
      · simp [h1, h2] at h
theorem paths_le {fs : List OFile} (hp : fs.Pairwise lessF) : (fs.map (·.path.data.toList)).Pairwise (fun x y => decide (x ≤ y) = true) := by
  rw [List.pairwise_map]
  refine hp.imp fun {f g} h => ?_
  unfold lessF at h
  rw [decide_eq_true_eq]
  exact List.le_of_lt (less_lt _ _ h)
theorem paths_nodup {fs : List OFile} (hp : fs.Pairwise lessF) : (fs.map (·.path.data.toList)).Nodup := by
  rw [List.Nodup, List.pairwise_map]
  exact hp.imp fun {f g} h => lessF_ne h
theorem keys_paths {w : World} {b n : Nat} {fs : List OFile} (h : IsMapS Tryz.prog 9 w b n (dataM fs)) (hp : fs.Pairwise lessF) :
    ∃ D : DataW Value, w.ownsMap Tryz.prog 9 heldE b n D ∧ Maps.size D ≤ n ∧ ∀ ss : List (List UInt8), ss.Perm (strKeys D) → ss.mergeSort (fun x y => decide (x ≤ y)) = fs.map (·.path.data.toList) := by
  obtain ⟨D, hown, _, hD⟩ := h
  refine ⟨D, hown, hown.size_le, fun ss hss => ?_⟩
  obtain ⟨es, e1, hpw, _⟩ := hown.entries strKeyed
  obtain ⟨es', e2, hko⟩ := hown.keysOf
  obtain rfl : es = es' := by rw [e1] at e2; simpa using e2
  subst e1
  have hperm : (fs.map (·.path.data.toList)).Perm (strKeys (.map es)) := perm_strKeys hpw (fun p hp' => by obtain ⟨v, hv⟩ := hko p hp'; obtain ⟨x, _, hx, _⟩ := Maps.keyOf_str Tryz.underlying9 hv; exact ⟨x, hx⟩) (paths_nodup hp) (fun x => by
    rw [(hD x).2, dataM_has, inPaths, List.any_eq_true, List.mem_map]
    constructor
    · rintro ⟨f, hf, rfl⟩; exact ⟨f, hf, by simp⟩
    · rintro ⟨f, hf, e⟩; exact ⟨f, hf, by simpa using e⟩)
  rw [mergeSort_of_perm (hss.trans hperm.symm)]
  exact List.mergeSort_of_pairwise (paths_le hp)
end Go.Proofs.YtidkpnabdfiilaaGreatDoor

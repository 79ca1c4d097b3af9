/- The edits from modules to others, plainly; applying them leads there. No program in sight. -/
import Derived.Test.YtdpnfkjafhbndaaGreatDoorEPA
namespace Go.Proofs.YtdpnfkjafhbndaaGreatDoor
def noText:ByteArray:=⟨#[]⟩
def remD (p:ByteArray) (d:ODecl):OEdit:=⟨6,p,noText,[d],[]⟩
def addD (p:ByteArray) (d:ODecl):OEdit:=⟨5,p,noText,[],[d]⟩
def partE7 (p:ByteArray) (a b:ODecl) (k:Int):OEdit:=⟨k,p,noText,[partD k a],[partD k b]⟩
def partsL (p:ByteArray) (a b:ODecl):List OEdit:=([7,8,9].filter fun k => !sameD (partD k a) (partD k b)).map (partE7 p a b)
def declE (p:ByteArray):List ODecl→List ODecl→List OEdit
  | [],[] => []
  | a :: xs,[] => remD p a :: declE p xs []
  | [],b :: bs => addD p b :: declE p [] bs
  | a :: xs,b :: bs => if a.id < b.id then remD p a :: declE p xs (b :: bs) else if b.id < a.id then addD p b :: declE p (a :: xs) bs else partsL p a b ++ declE p xs bs
termination_by xs bs => xs.length + bs.length
def useE (k:Int) (p:ByteArray) (uses others:List ByteArray):List OEdit:=(uses.filter fun u => !memS u others).map fun u => ⟨k,p,u,[],[]⟩
structure Pair where
  label:ByteArray
  a:Option OMod
  b:Option OMod
def usesO (m:Option OMod):List ByteArray:=(m.map OMod.uses).getD []
def declsO (m:Option OMod):List ODecl:=(m.map OMod.decls).getD []
def pairsL:List OMod→List OMod→List Pair
 | [],[] => []
 | a :: xs,[] => ⟨a.label,some a,none⟩ :: pairsL xs []
 | [],b :: bs => ⟨b.label,none,some b⟩ :: pairsL [] bs
 | a :: xs,b :: bs => if ltB a.label b.label then ⟨a.label,some a,none⟩ :: pairsL xs (b :: bs) else if ltB b.label a.label then ⟨b.label,none,some b⟩ :: pairsL (a :: xs) bs else ⟨b.label,some a,some b⟩ :: pairsL xs bs
termination_by xs bs => xs.length + bs.length
def addM (ps:List Pair):List OEdit:=(ps.filter fun p => p.a.isNone).map fun p => ⟨1,p.label,noText,[],[]⟩
def addU (ps:List Pair):List OEdit:=ps.flatMap fun p => useE 3 p.label (usesO p.b) (usesO p.a)
def chgD (ps:List Pair):List OEdit:=ps.flatMap fun p => declE p.label (declsO p.a) (declsO p.b)
def remU (ps:List Pair):List OEdit:=ps.flatMap fun p => useE 4 p.label (usesO p.a) (usesO p.b)
def remM (ps:List Pair):List OEdit:=(ps.filter fun p => p.b.isNone).map fun p => ⟨2,p.label,noText,[],[]⟩
def diffP (ps:List Pair):List OEdit:=addM ps ++ addU ps ++ chgD ps ++ remU ps ++ remM ps
def diffL (a b:List OMod):List OEdit:=diffP (pairsL a b)
def diffErr (a b:List OMod):Int:=if modsErr a = 0 then modsErr b else modsErr a
def diffR (a b:List OMod):List OEdit:=if diffErr a b = 0 then diffL a b else []
theorem not_lt_both {a b:ByteArray} (h1:¬ ltB a b = true) (h2:¬ ltB b a = true):a = b:=so_B.tot (by simpa using h1) (by simpa using h2)
theorem pairs_spec:∀ (n:Nat) {a b:List OMod},a.length + b.length = n→Asc ltB OMod.label a→Asc ltB OMod.label b →
    Asc ltB Pair.label (pairsL a b)∧(∀ p∈pairsL a b,p.a = look ltB OMod.label a p.label∧p.b = look ltB OMod.label b p.label∧((∃ m∈a,m.label = p.label)∨∃ m∈b,m.label = p.label))∧(∀ m,m∈a∨m∈b→∃ p∈pairsL a b,p.label = m.label):=by
  intro n
  induction n using Nat.strongRecOn with
  | _ n ih =>
    intro a b hn ha hb
    have lower:∀ {s:ByteArray} {x y:List OMod},(∀ m∈x,ltB s m.label = true)→(∀ m∈y,ltB s m.label = true)→(∀ p∈pairsL x y,((∃ m∈x,m.label = p.label)∨∃ m∈y,m.label = p.label))→∀ p∈pairsL x y,ltB s p.label = true:=by
      intro s x y h1 h2 h3 p hp
      rcases h3 p hp with ⟨m,hm,e⟩ | ⟨m,hm,e⟩
      · rw [← e];exact h1 m hm
      · rw [← e];exact h2 m hm
    have there:∀ {m:OMod} {r:List OMod} {s:ByteArray},ltB m.label s = true→look ltB OMod.label r s = look ltB OMod.label (m :: r) s:=fun {m r s} h => (look_there so_B r (ne_of_lt so_B h)).symm
    have gone:∀ {r:List OMod} {s:ByteArray},(∀ m∈r,ltB s m.label = true)→look ltB OMod.label r s = none:=fun {r s} h => (look_none so_B).2 fun m hm => (ne_of_lt so_B (h m hm)).symm
    cases a with
    | nil =>
      cases b with
      | nil => rw [pairsL];exact ⟨List.Pairwise.nil,fun p hp => (by cases hp),fun m hm => by rcases hm with h | h <;> cases h⟩
      | cons y bs =>
        obtain ⟨hb1,hb2⟩:=asc_cons.1 hb
        obtain ⟨i1,i2,i3⟩:=ih (0 + bs.length) (by simp at hn;omega) (a:=[]) (b:=bs) rfl ha hb2
        rw [pairsL]
        have hlow:=lower (s:=y.label) (x:=[]) (y:=bs) (fun m hm => by cases hm) hb1 (fun p hp => (i2 p hp).2.2)
        refine ⟨asc_cons.2 ⟨hlow,i1⟩,fun p hp => ?_,fun m hm => ?_⟩
        · rcases List.mem_cons.1 hp with rfl | hp
          · exact ⟨rfl,(look_here so_B _ rfl).symm,.inr ⟨y,List.mem_cons_self ..,rfl⟩⟩
          · obtain ⟨j1,j2,j3⟩:=i2 p hp
            refine ⟨j1,j2.trans (there (hlow p hp)),?_⟩
            rcases j3 with ⟨m,hm,_⟩ | ⟨m,hm,e⟩
            · cases hm
            · exact .inr ⟨m,List.mem_cons_of_mem _ hm,e⟩
        · rcases hm with hm | hm
          · cases hm
          · rcases List.mem_cons.1 hm with rfl | hm
            · exact ⟨_,List.mem_cons_self ..,rfl⟩
            · obtain ⟨p,hp,e⟩:=i3 m (.inr hm);exact ⟨p,List.mem_cons_of_mem _ hp,e⟩
    | cons x xs =>
      obtain ⟨ha1,ha2⟩:=asc_cons.1 ha
      cases b with
      | nil =>
        obtain ⟨i1,i2,i3⟩:=ih (xs.length + 0) (by simp at hn;omega) (a:=xs) (b:=[]) rfl ha2 hb
        rw [pairsL]
        have hlow:=lower (s:=x.label) (x:=xs) (y:=[]) ha1 (fun m hm => by cases hm) (fun p hp => (i2 p hp).2.2)
        refine ⟨asc_cons.2 ⟨hlow,i1⟩,fun p hp => ?_,fun m hm => ?_⟩
        · rcases List.mem_cons.1 hp with rfl | hp
          · exact ⟨(look_here so_B _ rfl).symm,rfl,.inl ⟨x,List.mem_cons_self ..,rfl⟩⟩
          · obtain ⟨j1,j2,j3⟩:=i2 p hp
            refine ⟨j1.trans (there (hlow p hp)),j2,?_⟩
            rcases j3 with ⟨m,hm,e⟩ | ⟨m,hm,_⟩
            · exact .inl ⟨m,List.mem_cons_of_mem _ hm,e⟩
            · cases hm
        · rcases hm with hm | hm
          · rcases List.mem_cons.1 hm with rfl | hm
            · exact ⟨_,List.mem_cons_self ..,rfl⟩
            · obtain ⟨p,hp,e⟩:=i3 m (.inl hm);exact ⟨p,List.mem_cons_of_mem _ hp,e⟩
          · cases hm
      | cons y bs =>
        obtain ⟨hb1,hb2⟩:=asc_cons.1 hb
        rw [pairsL]
        by_cases h1:ltB x.label y.label = true
        · rw [if_pos h1]
          obtain ⟨i1,i2,i3⟩:=ih (xs.length + (y :: bs).length) (by simp at hn ⊢;omega) (a:=xs) (b:=y :: bs) rfl ha2 hb
          have hby:∀ m∈y :: bs,ltB x.label m.label = true:=fun m hm => by
            rcases List.mem_cons.1 hm with rfl | hm
            · exact h1
            · exact so_B.tr h1 (hb1 m hm)
          have hlow:=lower (s:=x.label) (x:=xs) (y:=y :: bs) ha1 hby (fun p hp => (i2 p hp).2.2)
          refine ⟨asc_cons.2 ⟨hlow,i1⟩,fun p hp => ?_,fun m hm => ?_⟩
          · rcases List.mem_cons.1 hp with rfl | hp
            · exact ⟨(look_here so_B _ rfl).symm,(gone hby).symm,.inl ⟨x,List.mem_cons_self ..,rfl⟩⟩
            · obtain ⟨j1,j2,j3⟩:=i2 p hp
              refine ⟨j1.trans (there (hlow p hp)),j2,?_⟩
              rcases j3 with ⟨m,hm,e⟩ | h
              · exact .inl ⟨m,List.mem_cons_of_mem _ hm,e⟩
              · exact .inr h
          · rcases hm with hm | hm
            · rcases List.mem_cons.1 hm with rfl | hm
              · exact ⟨_,List.mem_cons_self ..,rfl⟩
              · obtain ⟨p,hp,e⟩:=i3 m (.inl hm);exact ⟨p,List.mem_cons_of_mem _ hp,e⟩
            · obtain ⟨p,hp,e⟩:=i3 m (.inr hm);exact ⟨p,List.mem_cons_of_mem _ hp,e⟩
        · rw [if_neg h1]
          by_cases h2:ltB y.label x.label = true
          · rw [if_pos h2]
            obtain ⟨i1,i2,i3⟩:=ih ((x :: xs).length + bs.length) (by simp at hn ⊢;omega) (a:=x :: xs) (b:=bs) rfl ha hb2
            have hax:∀ m∈x :: xs,ltB y.label m.label = true:=fun m hm => by
              rcases List.mem_cons.1 hm with rfl | hm
              · exact h2
              · exact so_B.tr h2 (ha1 m hm)
            have hlow:=lower (s:=y.label) (x:=x :: xs) (y:=bs) hax hb1 (fun p hp => (i2 p hp).2.2)
            refine ⟨asc_cons.2 ⟨hlow,i1⟩,fun p hp => ?_,fun m hm => ?_⟩
            · rcases List.mem_cons.1 hp with rfl | hp
              · exact ⟨(gone hax).symm,(look_here so_B _ rfl).symm,.inr ⟨y,List.mem_cons_self ..,rfl⟩⟩
              · obtain ⟨j1,j2,j3⟩:=i2 p hp
                refine ⟨j1,j2.trans (there (hlow p hp)),?_⟩
                rcases j3 with h | ⟨m,hm,e⟩
                · exact .inl h
                · exact .inr ⟨m,List.mem_cons_of_mem _ hm,e⟩
            · rcases hm with hm | hm
              · obtain ⟨p,hp,e⟩:=i3 m (.inl hm);exact ⟨p,List.mem_cons_of_mem _ hp,e⟩
              · rcases List.mem_cons.1 hm with rfl | hm
                · exact ⟨_,List.mem_cons_self ..,rfl⟩
                · obtain ⟨p,hp,e⟩:=i3 m (.inr hm);exact ⟨p,List.mem_cons_of_mem _ hp,e⟩
          · rw [if_neg h2]
            have exy:=not_lt_both h1 h2
            obtain ⟨i1,i2,i3⟩:=ih (xs.length + bs.length) (by simp at hn ⊢;omega) (a:=xs) (b:=bs) rfl ha2 hb2
            have hlow:=lower (s:=y.label) (x:=xs) (y:=bs) (by rw [← exy];exact ha1) hb1 (fun p hp => (i2 p hp).2.2)
            refine ⟨asc_cons.2 ⟨hlow,i1⟩,fun p hp => ?_,fun m hm => ?_⟩
            · rcases List.mem_cons.1 hp with rfl | hp
              · exact ⟨(look_here so_B _ exy).symm,(look_here so_B _ rfl).symm,.inr ⟨y,List.mem_cons_self ..,rfl⟩⟩
              · obtain ⟨j1,j2,j3⟩:=i2 p hp
                refine ⟨j1.trans (there (by rw [exy];exact hlow p hp)),j2.trans (there (hlow p hp)),?_⟩
                rcases j3 with ⟨m,hm,e⟩ | ⟨m,hm,e⟩
                · exact .inl ⟨m,List.mem_cons_of_mem _ hm,e⟩
                · exact .inr ⟨m,List.mem_cons_of_mem _ hm,e⟩
            · rcases hm with hm | hm
              · rcases List.mem_cons.1 hm with rfl | hm
                · exact ⟨_,List.mem_cons_self ..,exy.symm⟩
                · obtain ⟨p,hp,e⟩:=i3 m (.inl hm);exact ⟨p,List.mem_cons_of_mem _ hp,e⟩
              · rcases List.mem_cons.1 hm with rfl | hm
                · exact ⟨_,List.mem_cons_self ..,rfl⟩
                · obtain ⟨p,hp,e⟩:=i3 m (.inr hm);exact ⟨p,List.mem_cons_of_mem _ hp,e⟩
end Go.Proofs.YtdpnfkjafhbndaaGreatDoor


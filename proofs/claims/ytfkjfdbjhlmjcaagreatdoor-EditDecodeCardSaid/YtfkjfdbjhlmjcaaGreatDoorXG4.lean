/- lexer.letter, digit, Word, Label; the reference's letter, digit, word, slash, Label of. -/
import Derived.Test.YtfkjfdbjhlmjcaaGreatDoorXG1
set_option maxHeartbeats 16000000
namespace Go.Proofs.YtfkjfdbjhlmjcaaGreatDoor
open Go.RowKit
theorem zDl (c:Int) (w:World) :
  Calls Tryz.prog 178 #[.int .i32 c] w fun e w'=>e=.returned (.bool (isLet c))∧w=w':=by
 by_cases h1:97≤c<;>by_cases h2:c≤122 <;>
 ·go_enter Tryz.func178,Tryz.ntmps178
  go_wp2;go_ret;exact ⟨zAb (by simp [isLet,h1,h2]),rfl⟩
theorem zJr (c:Int) (w:World) :
  Calls Tryz.prog 179 #[.int .i32 c] w fun e w'=>e=.returned (.bool (isDig c))∧w=w':=by
 by_cases h1:48≤c<;>by_cases h2:c≤57 <;>
 ·go_enter Tryz.func179,Tryz.ntmps179
  go_wp2;go_ret;exact ⟨zAb (by simp [isDig,h1,h2]),rfl⟩
theorem zDn (c:Int) (w:World) :
  Calls Tryz.prog 189 #[.int .u8 c] w fun e w'=>e=.returned (.bool (isLet c))∧w=w':=by
 by_cases h1:97≤c<;>by_cases h2:c≤122 <;>
 ·go_enter Tryz.func189,Tryz.ntmps189
  go_wp2;go_ret;exact ⟨zAb (by simp [isLet,h1,h2]),rfl⟩
theorem zMa (c:Int) (w:World) :
  Calls Tryz.prog 190 #[.int .u8 c] w fun e w'=>e=.returned (.bool (isDig c))∧w=w':=by
 by_cases h1:48≤c<;>by_cases h2:c≤57 <;>
 ·go_enter Tryz.func190,Tryz.ntmps190
  go_wp2;go_ret;exact ⟨zAb (by simp [isDig,h1,h2]),rfl⟩
theorem zIi (s:ByteArray) (w:World) (hs:s.size≤40000) :
    Calls Tryz.prog 160 #[.string s] w fun e w'=>e=.returned (.int .i64 (slashS s))∧w=w':=by
  go_enter Tryz.func160,Tryz.ntmps160
  go_wp2
  go_loop [3] (fun i=>∃k:Nat,k≤slashS s∧i=.int .i64 k) (fun i=>s.size - (intOf i).toNat)
  case atStart=>exact ⟨0,Nat.zero_le _,rfl⟩
  case round=>
    obtain ⟨k,hk,rfl⟩:=hrel
    have hle:slashS s≤s.size:=by rw [←sz];exact zHv _
    by_cases hlt:k<s.size
    · have hg:=zHu s k hlt
      by_cases hc:s[k]=47
      · have hb:((s[k].toNat:Int) != 47)=false:=by rw [hc];rfl
        have H:Hid (slashS s=k):=zUw hk (by rw [sz];exact hlt) (by rw [hg,hc])
        clear hg hc
        go_wp2
        go_ret
        exact ⟨zAc (by rw [H.o]),rfl⟩
      · have hb:((s[k].toNat:Int) != 47)=true:=by
          rw [bne_iff_ne];intro h;apply hc;apply UInt8.toNat_inj.1;have:s[k].toNat=47:=by omega
          rw [this];rfl
        have H:k+1≤slashS s:=zPb hk (by rw [sz];exact hlt) (by rw [hg];exact hc)
        clear hg hc
        go_wp2
        go_round
        case rel=>exact ⟨k+1,by omega,by go_num⟩
        case measure=>simp [intOf];omega
    · have H:Hid (slashS s=k):=by show _=_;omega
      go_wp2
      go_ret
      exact ⟨zAc (by rw [H.o]),rfl⟩
theorem zNo {i:Nat} {c:UInt8} (h:isLet (c.toNat:Int)=true):okAt i c=true:=by simp [okAt,h]
theorem zGu (s:ByteArray) (n:Int) (w:World) (hs:s.size≤40000) (hn:0≤n) :
    Calls Tryz.prog 161 #[.string s,.int .i64 n] w fun e w'=>e=.returned (.bool (wordS n.toNat s))∧w=w':=by
  by_cases h1:s.size<1
  · have H:Hid (wordS n.toNat s=false):=zJm (by rw [sz];exact h1)
    go_enter Tryz.func161,Tryz.ntmps161
    go_wp2
    go_ret
    exact ⟨zAb (by rw [H.o]),rfl⟩
  by_cases h2:n<s.size
  · have H:Hid (wordS n.toNat s=false):=zLt (by rw [sz];omega)
    go_enter Tryz.func161,Tryz.ntmps161
    go_wp2
    go_ret
    exact ⟨zAb (by rw [H.o]),rfl⟩
  have h0:0<s.size:=by omega
  have hg0:=zHu s 0 h0
  by_cases h3:isLet (s[0].toNat:Int)=true
  · have HW:Hid (wordS n.toNat s=true↔∀i,i<s.size→okAt i (s.data.toList.getD i 0)=true):=by
      show _↔_
      constructor
      · intro h i hi
        simp only [wordS,wordN,Bool.and_eq_true] at h
        exact (zGq _).1 h.2 i (by rw [sz];exact hi)
      · intro h;exact zLu (by rw [sz];omega) (by rw [sz];omega) (fun i hi=>h i (by rw [sz] at hi;exact hi))
    have H0:Hid (okAt 0 (s.data.toList.getD 0 0)=true):=by
      show _=_
      rw [hg0];exact zNo h3
    clear hg0
    go_enter Tryz.func161,Tryz.ntmps161
    go_wp2_with (go_at_call 189;refine (zDn _ _).mono ?_;rintro e w' ⟨rfl,rfl⟩)
    go_loop [5] (fun i=>∃k:Nat,k≤s.size∧i=.int .i64 k∧Hid (∀i,i<k→okAt i (s.data.toList.getD i 0)=true)) (fun i=>s.size - (intOf i).toNat)
    case atStart=>exact ⟨0,Nat.zero_le _,rfl,fun i hi=>by omega⟩
    case round=>
      obtain ⟨k,hk,rfl,HK⟩:=hrel
      by_cases hlt:k<s.size
      · have hg:=zHu s k hlt
        have step:okAt k (s.data.toList.getD k 0)=true→Hid (∀i,i<k+1→okAt i (s.data.toList.getD i 0)=true):=fun h i hi=>by
          by_cases e:i=k
          · rw [e];exact h
          · exact HK.o i (by omega)
        cases hl:isLet (s[k].toNat:Int) with
        | true=>
          have HN:=step (by rw [hg];exact zNo hl)
          clear hg step
          go_wp2_with (go_at_call 189;refine (zDn _ _).mono ?_;rintro e w' ⟨rfl,rfl⟩)
          go_round
          case rel=>exact ⟨k+1,by omega,by go_num,HN⟩
          case measure=>simp [intOf];omega
        | false=>
          cases hd:isDig (s[k].toNat:Int) with
          | true=>
            have hk0:k≠0:=by intro e;subst e;rw [hl] at h3;cases h3
            have HN:=step (by rw [hg];simp [okAt,hd,hk0])
            clear hg step hk0
            go_wp2_with (first|(go_at_call 189;refine (zDn _ _).mono ?_;rintro e w' ⟨rfl,rfl⟩)|(go_at_call 190;refine (zMa _ _).mono ?_;rintro e w' ⟨rfl,rfl⟩))
            go_round
            case rel=>exact ⟨k+1,by omega,by go_num,HN⟩
            case measure=>simp [intOf];omega
          | false=>
            have HF:Hid (wordS n.toNat s=false):=zFa (i:=k) (by rw [sz];exact hlt) (by rw [hg];simp [okAt,hd,hl])
            clear hg step
            go_wp2_with (first|(go_at_call 189;refine (zDn _ _).mono ?_;rintro e w' ⟨rfl,rfl⟩)|(go_at_call 190;refine (zMa _ _).mono ?_;rintro e w' ⟨rfl,rfl⟩))
            go_ret
            exact ⟨zAb (by rw [HF.o]),rfl⟩
      · have HT:Hid (wordS n.toNat s=true):=HW.o.2 (fun i hi=>HK.o i (by omega))
        go_wp2
        go_ret
        exact ⟨zAb (by rw [HT.o]),rfl⟩
  · have hl:isLet (s[0].toNat:Int)=false:=by simpa using h3
    have HF:Hid (wordS n.toNat s=false):=zFa (i:=0) (by rw [sz];exact h0) (by rw [hg0];simp [okAt,hl])
    clear hg0 h3
    go_enter Tryz.func161,Tryz.ntmps161
    go_wp2_with (go_at_call 189;refine (zDn _ _).mono ?_;rintro e w' ⟨rfl,rfl⟩)
    go_ret
    exact ⟨zAb (by rw [HF.o]),rfl⟩
theorem zNp (s:ByteArray) (w:World) (hs:s.size≤40000) :
  Calls Tryz.prog 150 #[.string s] w fun e w'=>e=.returned (.bool (wordS 24 s))∧Bw w w':=by
 by_cases h1:s.size<1
 ·have H:Hid (wordS 24 s=false):=zJm (by rw [sz];exact h1)
  have he:s.toList=[]:=by rw [tl];apply List.eq_nil_of_length_eq_zero;rw [sz];omega
  go_enter Tryz.func150,Tryz.ntmps150
  go_wp2;go_ret;exact ⟨zAb (by rw [H.o]),zAl _⟩
 have he:s.toList.isEmpty=false:=by rw [tl];rw [List.isEmpty_eq_false_iff];intro h;have:=congrArg List.length h;rw [sz] at this;exact absurd this (by simp only [List.length_nil];omega)
 by_cases h2:24<s.size
 ·have H:Hid (wordS 24 s=false):=zLt (by rw [sz];omega)
  go_enter Tryz.func150,Tryz.ntmps150
  go_wp2;go_ret;exact ⟨zAb (by rw [H.o]),zAl _⟩
 have HW:Hid (wordS 24 s=true↔∀i,i<s.size→okAt i (s.data.toList.getD i 0)=true):=by
  show _↔_
  constructor
  ·intro h i hi
   simp only [wordS,wordN,Bool.and_eq_true] at h
   exact (zGq _).1 h.2 i (by rw [sz];exact hi)
  ·intro h;exact zLu (by rw [sz];omega) (by rw [sz];omega) (fun i hi=>h i (by rw [sz] at hi;exact hi))
 have hd24:decide (24<(s.size:Int))=false:=by simp;omega
 go_enter Tryz.func150,Tryz.ntmps150
 go_wp2
 go_loopw [3] (fun _ wr=>∃k:Nat,k≤s.size∧wr=w.iter s k∧Hid (∀i,i<k→okAt i (s.data.toList.getD i 0)=true)) (fun _ wr=>s.size - wr.iterPos w.heap.size)
 case atStart=>exact ⟨0,Nat.zero_le _,rfl,fun i hi=>by omega⟩
 case round=>
  obtain ⟨k,hk,rfl,HK⟩:=hrel
  by_cases hlt:k<s.size
  ·have hg:=zHu s k hlt
   have step:okAt k (s.data.toList.getD k 0)=true→Hid (∀i,i<k+1→okAt i (s.data.toList.getD i 0)=true):=fun h i hi=>by
    by_cases e:i=k
    ·rw [e];exact h
    ·exact HK.o i (by omega)
   by_cases ha:s[k].toNat<128
   ·have hnx:∀ty,(Instr.next (.pointer (some ⟨w.heap.size,0,none⟩)) true ty).run Tryz.prog (w.iter s k)=_:=fun ty=>run_next_ascii w s k ty hlt ha
    cases hl:isLet (s[k].toNat:Int) with
    | true=>
     have HN:=step (by rw [hg];exact zNo hl);clear hg step;go_wp2_with (go_at_call 178;refine (zDl _ _).mono ?_;rintro e w' ⟨rfl,rfl⟩)
     go_roundw
     case rel=>exact ⟨k+1,by omega,rfl,HN⟩
     case measure=>simp;omega
    | false=>
     by_cases hk0:k=0
     ·subst hk0
      have HF:Hid (wordS 24 s=false):=zFa (i:=0) (by rw [sz];exact hlt) (by rw [hg];simp [okAt,hl]);clear hg step;go_wp2_with (go_at_call 178;refine (zDl _ _).mono ?_;rintro e w' ⟨rfl,rfl⟩)
      go_ret;exact ⟨zAb (by rw [HF.o]),zAa _ _⟩
     ·have hkb:((k:Int)==0)=false:=by rw [beq_eq_false_iff_ne];omega
      cases hd:isDig (s[k].toNat:Int) with
      | true=>
       have HN:=step (by rw [hg];simp [okAt,hd,hk0]);clear hg step hk0;go_wp2_with (first|(go_at_call 178;refine (zDl _ _).mono ?_;rintro e w' ⟨rfl,rfl⟩)|(go_at_call 179;refine (zJr _ _).mono ?_;rintro e w' ⟨rfl,rfl⟩))
       go_roundw
       case rel=>exact ⟨k+1,by omega,rfl,HN⟩
       case measure=>simp;omega
      | false=>
       have HF:Hid (wordS 24 s=false):=zFa (i:=k) (by rw [sz];exact hlt) (by rw [hg];simp [okAt,hl,hd]);clear hg step hk0;go_wp2_with (first|(go_at_call 178;refine (zDl _ _).mono ?_;rintro e w' ⟨rfl,rfl⟩)|(go_at_call 179;refine (zJr _ _).mono ?_;rintro e w' ⟨rfl,rfl⟩))
       go_ret;exact ⟨zAb (by rw [HF.o]),zAa _ _⟩
   ·have hh:=decode_high s k hlt (by omega)
    have hnx:∀ty,(Instr.next (.pointer (some ⟨w.heap.size,0,none⟩)) true ty).run Tryz.prog (w.iter s k)=_:=fun ty=>run_next_any w s k ty hlt;have hl:isLet (((Utf8.decode s k).1:Nat):Int)=false:=by simp [isLet];omega
    have hd:isDig (((Utf8.decode s k).1:Nat):Int)=false:=by simp [isDig];omega
    have HF:Hid (wordS 24 s=false):=zFa (i:=k) (by rw [sz];exact hlt) (by rw [hg];simp [okAt,isLet,isDig];omega);clear hg step hh
    by_cases hk0:k=0
    ·subst hk0
     go_wp2_with (go_at_call 178;refine (zDl _ _).mono ?_;rintro e w' ⟨rfl,rfl⟩)
     go_ret;exact ⟨zAb (by rw [HF.o]),zAa _ _⟩
    ·have hkb:((k:Int)==0)=false:=by rw [beq_eq_false_iff_ne];omega
     clear hk0;go_wp2_with (first|(go_at_call 178;refine (zDl _ _).mono ?_;rintro e w' ⟨rfl,rfl⟩)|(go_at_call 179;refine (zJr _ _).mono ?_;rintro e w' ⟨rfl,rfl⟩))
     go_ret;exact ⟨zAb (by rw [HF.o]),zAa _ _⟩
  ·have HT:Hid (wordS 24 s=true):=HW.o.2 (fun i hi=>HK.o i (by omega))
   have hnx:∀ty,(Instr.next (.pointer (some ⟨w.heap.size,0,none⟩)) true ty).run Tryz.prog (w.iter s k)=_:=fun ty=>run_next_end w s k ty hlt;go_wp2;go_ret;exact ⟨zAb (by rw [HT.o]),zAa _ _⟩
def strLen:Value→Nat|.string s=>s.size|_=>0
theorem zFt (s:ByteArray) (w:World) (hs:s.size≤40000) :
  Calls Tryz.prog 110 #[.string s] w fun e w'=>e=.returned (.bool (labelS s))∧w=w':=by
 by_cases h1:90<s.size
 ·have H:Hid (labelS s=false):=zJn (by rw [sz];omega)
  go_enter Tryz.func110,Tryz.ntmps110
  go_wp2;go_ret;exact ⟨zAb (by rw [H.o]),rfl⟩
 have hd90:decide (90<(s.size:Int))=false:=by simp;omega
 have H90:Hid (labelS s=(split s.data.toList).all (wordN 20)):=by
  show _=_;simp [labelS,labelB];intro;omega
 go_enter Tryz.func110,Tryz.ntmps110
 go_wp2_with (go_at_call 160;refine (zIi _ _ (by omega)).mono ?_;rintro e w' ⟨rfl,rfl⟩)
 go_loop [0,3] (fun v i=>∃t:ByteArray,v=.string t∧i=.int .i64 (slashS t)∧t.size≤90∧Hid (labelS s=(split t.data.toList).all (wordN 20))) (fun v _=>strLen v)
 case atStart=>exact ⟨s,rfl,rfl,by omega,H90⟩
 case round=>
  obtain ⟨t,rfl,rfl,ht,HT⟩:=hrel;have hle:slashS t≤t.size:=by rw [←sz];exact zHv _
  by_cases hlt:slashS t<t.size
  ·have HS:Hid (split t.data.toList=t.data.toList.take (slashS t)::split (t.data.toList.drop (slashS t+1))):=zLs (by rw [sz];exact hlt)
   generalize hk:slashS t=k at *;have HK:=lH hk;clear hk
   cases hw:wordS 20 (t.extract 0 k) with
   | true=>
    go_wp2_with (first|(go_at_call 161;refine (zGu _ _ _ (by simp;omega) (by omega)).mono ?_;rintro e w' ⟨rfl,rfl⟩)|(go_at_call 160;refine (zIi _ _ (by simp;omega)).mono ?_;rintro e w' ⟨rfl,rfl⟩))
    go_round
    case rel=>
     refine ⟨_,rfl,rfl,by simp;omega,?_⟩;show _=_
     rw [wordS,zRh] at hw;rw [HT.o,HS.o,yDc,List.all_cons,hw];simp
    case measure=>simp [strLen];omega
   | false=>
    have HF:Hid (labelS s=false):=by
     show _=_
     rw [HT.o,HS.o,List.all_cons,←zRh];rw [wordS] at hw;rw [hw];simp
    go_wp2_with (go_at_call 161;refine (zGu _ _ _ (by simp;omega) (by omega)).mono ?_;rintro e w' ⟨rfl,rfl⟩)
    go_ret;exact ⟨zAb (by rw [HF.o]),rfl⟩
  ·have HS:Hid (labelS s=wordS 20 t):=by
    show _=_
    rw [HT.o,zLr (by rw [sz];show slashS t=_;omega)];simp [wordS]
   go_wp2_with (go_at_call 161;refine (zGu _ _ _ (by omega) (by omega)).mono ?_;rintro e w' ⟨rfl,rfl⟩)
   go_ret;exact ⟨zAb (by rw [HS.o]),rfl⟩
end Go.Proofs.YtfkjfdbjhlmjcaaGreatDoor
namespace Go.Proofs.YtfkjfdbjhlmjcaaGreatDoor
open Go.RowKit Go.Shelf
attribute [local go_sem] Oper.semAt_some
theorem zPh (s:ByteArray) (w:World) :
  Calls Tryz.prog 149 #[.string s,.string ⟨#[47]⟩] w fun e w'=>
   e=.returned (.func (.func 200) #[] #[.pointer (some ⟨w.heap.size+1,0,none⟩),.pointer (some ⟨w.heap.size,0,none⟩),.pointer (some ⟨w.heap.size+2,0,none⟩)]) ∧
   ((w.alloc (.cells #[.string s] 9)).alloc (.cells #[.string ⟨#[47]⟩] 9)).alloc (.cells #[.int .i64 0] 3)=w':=by
 go_enter Tryz.func149,Tryz.ntmps149
 go_wp2;go_ret;exact ⟨rfl,rfl⟩
theorem zEe {W:World} {b o:Nat} {v:Value} (h:W.cell? ⟨b,o,none⟩=some v):b<W.heap.size:=by
 obtain ⟨o,ho,_⟩:=cells_of_cell h;exact (Array.getElem?_eq_some_iff.1 ho).1
def partAt (s:ByteArray) (k:Nat):ByteArray:=bOf ((split s.data.toList).getD k [])
theorem zJs {s:ByteArray} {k:Nat} (hk:k<(partsOf s).length):(partsOf s)[k]=#[.string (partAt s k)]:=by
 unfold partsOf partAt at *;rw [List.length_map] at hk;rw [List.getElem_map,List.getD_eq_getElem?_getD,List.getElem?_eq_getElem hk];rfl
theorem zJt (s:ByteArray):(partsOf s).length=(split s.data.toList).length:=by simp [partsOf]
theorem zD {B:Nat} {W W':World} (hb:Bw W W'):KeepsFrom B W W':=
 ⟨hb.size,fun k _ _ hk _=>(hb.block k (Array.getElem?_eq_some_iff.1 hk).1).trans hk⟩
theorem zXh {s:ByteArray} {k:Nat} (hk:k<(partsOf s).length) (h:wordN 20 (partAt s k).data.toList=false):labelS s=false:=by
 rw [zJt] at hk;rw [labelS,labelB,Bool.and_eq_false_iff]
 right
 rw [List.all_eq_false];refine ⟨(split s.data.toList)[k],List.getElem_mem hk,?_⟩;unfold partAt at h;rw [zTi,List.getD_eq_getElem?_getD,List.getElem?_eq_getElem hk] at h
 simpa using h
theorem zUz {s:ByteArray} (h90:¬90<s.size) (h:∀k,k<(partsOf s).length→wordN 20 (partAt s k).data.toList=true):labelS s=true:=by
 rw [labelS,labelB,Bool.and_eq_true];refine ⟨by rw [sz];simp;omega,?_⟩;rw [List.all_eq_true];intro l hl;obtain ⟨k,hk,rfl⟩:=List.getElem_of_mem hl;have:=h k (by rw [zJt];exact hk);unfold partAt at this;rw [zTi,List.getD_eq_getElem?_getD,List.getElem?_eq_getElem hk] at this
 simpa using this
theorem zFc (s:ByteArray) (w:World) (hs:s.size≤40000) :
  Calls Tryz.prog 105 #[.string s] w fun e w'=>e=.returned (.bool (labelS s))∧Bw w w':=by
 by_cases h1:90<s.size
 ·have H:Hid (labelS s=false):=zJn (by rw [sz];omega)
  go_enter Tryz.func105,Tryz.ntmps105
  go_wp2;refine bodyPost_ret (v:=.bool false) (by simp [results,Tryz.results105,go_sem]) rfl ⟨by rw [H.o],?_⟩;exact zAa _ _
 ·have hd90:decide (90<(s.size:Int))=false:=by simp;omega
  refine (callsIn_wide (n:=5)).1 ?_;refine callsIn_of_wp_marks Tryz.func105 rfl trivial ?_ rfl;simp only [Tryz.ntmps105,List.size_toArray,List.length_cons,List.length_nil,Nat.reduceAdd,Nat.reduceSub,Array.replicate_succ,Array.replicate_zero,List.push_toArray,List.append_toArray,List.nil_append,List.cons_append]
  gi_wp2_with (refine ⟨trivial,?_⟩;gi_at_call 149;refine (callsIn_wide.2 (zPh _ _)).mono ?_;rintro e w' ⟨rfl,rfl⟩)
  generalize hW:((((w.alloc (Obj.cells #[Value.bool false] 4)).alloc (Obj.cells #[Value.string s] 9)).alloc (Obj.cells #[Value.string ⟨#[47]⟩] 9)).alloc (Obj.cells #[Value.int IntKind.i64 0] 3))=W0;have hsz:W0.heap.size=w.heap.size+4:=by rw [←hW];simp
  have k0:W0.cell? ⟨w.heap.size,0,none⟩=some (.bool false):=by rw [←hW];simp [go_sem]
  have k1:W0.cell? ⟨w.heap.size+1,0,none⟩=some (.string s):=by rw [←hW];simp [go_sem]
  have k2:W0.cell? ⟨w.heap.size+1+1,0,none⟩=some (.string ⟨#[47]⟩):=by rw [←hW];simp [go_sem]
  have k3:W0.cell? ⟨w.heap.size+1+2,0,none⟩=some (.int .i64 0):=by rw [←hW];simp [go_sem]
  have f0:W0.frozen? ⟨w.heap.size,0,none⟩=false:=by rw [←hW];simp [go_sem]
  have f1:W0.frozen? ⟨w.heap.size+1,0,none⟩=false:=by rw [←hW];simp [go_sem]
  have hbW:Bw w W0:=by
   rw [←hW];exact ((((Below.refl _ w).alloc (Nat.le_refl _) _).alloc (by simp) _).alloc (by simp;omega) _).alloc (by simp;omega) _
  clear hW;have HSZ:=lH hsz;have hsz':w.heap.size+4≤W0.heap.size:=by omega
  clear hsz
  refine yDj rfl (by omega) (gf:=200) (lb:=#[.pointer (some ⟨w.heap.size+1+1,0,none⟩),.pointer (some ⟨w.heap.size+1,0,none⟩),.pointer (some ⟨w.heap.size+1+2,0,none⟩)]) rfl trivial (enters_of Tryz.func200 (by kernel_rfl) rfl)
   (zLj s hs W0 (w.heap.size+1) (w.heap.size+1+1) (w.heap.size+1+2) (w.heap.size+4) hsz' (by omega) (by omega) (by omega) (by omega) (by omega) k1 f1 k2 k3) hsz' (zAl _)
   (fun k hk=>by rw [zJs hk];rfl)
   (fun k W=>(W.cell? ⟨w.heap.size,0,none⟩=some (.bool false)∧W.frozen? ⟨w.heap.size,0,none⟩=false)∧Hid (∀j,j<k→wordN 20 (partAt s j).data.toList=true)∧Bw w W∧w.heap.size+4≤W.heap.size)
   (fun c _ W=>(c=.ret∧Hid (labelS s=false))∧W.cell? ⟨w.heap.size,0,none⟩=some (.bool false)∧Bw w W)
   (OwnFrom.and (Own.from (fun s A B row hs hg hr=>⟨cell_kept hs.1 hg hr,(frozen_kept hs.1 hg hr).trans hs.2⟩) _) (OwnFrom.and (ownFrom_pure _ _) (OwnFrom.and (ownFrom_below (Nat.le_refl _) (by omega)) (fun _ _ _ _ hs hg _=>Nat.le_trans hs hg.size))))
   (fun c=>OwnFrom.and (ownFrom_pure _ _) (OwnFrom.and (Own.from (fun s A B row hs hg hr=>cell_kept hs hg hr) _) (ownFrom_below (Nat.le_refl _) (by omega))))
   ?ab ?ia ?ixa ⟨⟨k0,f0⟩,(fun j hj=>by omega),hbW,hsz'⟩
   (fun k a' _=>a'={ tmps:=#[.string s,undef,.pointer (some ⟨w.heap.size,0,none⟩),.string (partAt s k),.string s,.int .i64 s.size,.bool false,.string s,.func (.func 200) #[] #[.pointer (some ⟨w.heap.size+1+1,0,none⟩),.pointer (some ⟨w.heap.size+1,0,none⟩),.pointer (some ⟨w.heap.size+1+2,0,none⟩)],.string (partAt s k),undef,undef,undef,undef,undef,undef,undef,undef],defers:=[] })
   (fun _ _ _ _ _ _ hs _ _=>hs) ?assign ?body ?done ?stop
  case ab=>
   rintro A B ⟨v,rfl⟩ k o hk ho _;rw [Below.heap_setCell _ _ _ _ (by show k≠w.heap.size+1;omega)];exact ho
  case ia=>
   rintro k A B ⟨⟨hc,hf⟩,hh,hb,hz⟩ ⟨v,rfl⟩;exact ⟨⟨by rw [zJb _ _ _ _ (by show w.heap.size≠w.heap.size+1;omega)];exact hc,by rw [zUv];exact hf⟩,hh,hb.setCell (by show _≤w.heap.size+1;omega) _,by simpa [World.setCell] using hz⟩
  case ixa=>
   rintro c k A B ⟨hh,hc,hb⟩ ⟨v,rfl⟩;exact ⟨hh,by rw [zJb _ _ _ _ (by show w.heap.size≠w.heap.size+1;omega)];exact hc,hb.setCell (by show _≤w.heap.size+1;omega) _⟩
  case assign=>
   intro l k hk W K hi hK;rw [zJs hk]
   gi_wp2
   exact hK _ _ (KeepsFrom.refl _ _) (Below.refl _ _) hi rfl
  case body=>
   rintro l k hk a' W ⟨⟨hc,hf⟩,HH,hb,hbz⟩ rfl;have hbad:=@zXh s k hk;have HBAD:=lH hbad;clear hbad;generalize hp:partAt s k=p at *;have HP:=lH hp;clear hp;have HW:Hid (wordN 20 p.data.toList=(decide (p.data.toList.length≤20) && wordS 24 p)):=zRj _
   by_cases h20:20<p.size
   ·have HL:Hid (labelS s=false):=HBAD.o (by rw [HW.o,sz];simp;omega)
    gi_wp2
    refine ⟨trivial,?_⟩
    gi_wp2
    exact ⟨(KeepsOthers.setCell _ _ _).from _,⟨⟨rfl,HL⟩,World.cell?_setCell_same' _ _ _ (by rw [hc];rfl),hb.setCell (Nat.le_refl _) _⟩⟩
   ·have hd20:decide (20<(p.size:Int))=false:=by simp;omega
    cases hw:wordS 24 p with
    | false=>
     have HL:Hid (labelS s=false):=HBAD.o (by rw [HW.o,hw];simp)
     gi_wp2_with (refine ⟨trivial,?_⟩;gi_at_call 150;refine (CallsIn.inRound l (callsIn_wide.2 (zNp _ _ (by omega)))).mono ?_;rintro e w' ⟨rfl,hb'⟩;have hc':=(hb'.cell (p:=⟨w.heap.size,0,none⟩) (zEe hc)).trans hc;have hf':=(hb'.frozen (p:=⟨w.heap.size,0,none⟩) (zEe hc)).trans hf)
     exact ⟨(zD hb').trans ((KeepsOthers.setCell _ _ _).from _),⟨⟨rfl,HL⟩,World.cell?_setCell_same' _ _ _ (by rw [hc'];rfl),(hb.trans (hb'.mono hb.size)).setCell (Nat.le_refl _) _⟩⟩
    | true=>
     have HN:Hid (∀j,j<k+1→wordN 20 (partAt s j).data.toList=true):=fun j hj=>by
      by_cases e:j=k
      ·subst e;rw [HP.o,HW.o,hw,sz];simp;omega
      ·exact HH.o j (by omega)
     gi_wp2_with (refine ⟨trivial,?_⟩;gi_at_call 150;refine (CallsIn.inRound l (callsIn_wide.2 (zNp _ _ (by omega)))).mono ?_;rintro e w' ⟨rfl,hb'⟩;have hc':=(hb'.cell (p:=⟨w.heap.size,0,none⟩) (zEe hc)).trans hc;have hf':=(hb'.frozen (p:=⟨w.heap.size,0,none⟩) (zEe hc)).trans hf)
     exact ⟨zD hb',hb'.mono hbz,⟨hc',hf'⟩,HN,hb.trans (hb'.mono hb.size),Nat.le_trans hbz hb'.size⟩
  case done=>
   rintro D W hD ⟨⟨hc,hf⟩,HH,hb,_⟩ hK;have HL:Hid (labelS s=true):=zUz h1 HH.o
   gi_wp2
   have hK2:=(KeepsOthers.setCell W ⟨w.heap.size,0,none⟩ (.bool true)).same D _ hK rfl;refine ⟨by simp,.inl ⟨_,_,rfl,run_takeDeferred hK2,?_⟩⟩
   have hc2:((W.setCell ⟨w.heap.size,0,none⟩ (.bool true)).putObj D (.deferred none)).cell? ⟨w.heap.size,0,none⟩=some (.bool true):=
    cell_kept (World.cell?_setCell_same' _ _ _ (by rw [hc];rfl)) (grownBy_putObj' _ D (.deferred none)) (fun r e=>by cases e;exact ⟨_,hK2,rfl⟩)
   have hB2:Bw w ((W.setCell ⟨w.heap.size,0,none⟩ (.bool true)).putObj D (.deferred none)):=
    (hb.setCell (p:=⟨w.heap.size,0,none⟩) (Nat.le_refl _) (.bool true)).trans (belowK_b (w:=w) (Nat.le_refl _) _ D _ _ (by omega) hK2 rfl rfl)
   refine ⟨.bool true,by simp [results,Tryz.results105,go_sem,hc2],?_⟩;exact ⟨by rw [HL.o],hB2⟩
  case stop=>
   rintro D c k W hD hk ⟨⟨rfl,HL⟩,hc,hb⟩ hK
   gi_wp2
   refine ⟨by simp,.inl ⟨_,_,rfl,run_takeDeferred hK,?_⟩⟩
   have hc2:(W.putObj D (.deferred none)).cell? ⟨w.heap.size,0,none⟩=some (.bool false):=
    cell_kept hc (grownBy_putObj' _ D (.deferred none)) (fun r e=>by cases e;exact ⟨_,hK,rfl⟩)
   have hB2:Bw w (W.putObj D (.deferred none)):=
    hb.trans (belowK_b (w:=w) (Nat.le_refl _) _ D _ _ (by omega) hK rfl rfl)
   refine ⟨.bool false,by simp [results,Tryz.results105,go_sem,hc2],?_⟩;exact ⟨by rw [HL.o],hB2⟩
end Go.Proofs.YtfkjfdbjhlmjcaaGreatDoor

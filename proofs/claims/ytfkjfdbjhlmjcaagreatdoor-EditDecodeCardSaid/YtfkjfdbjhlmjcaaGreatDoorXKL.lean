/- codec.GetInt, GetText and the reference's: -/
import Derived.Test.YtfkjfdbjhlmjcaaGreatDoorXShW
set_option maxRecDepth 100000
set_option maxHeartbeats 16000000
namespace Go.Proofs.YtfkjfdbjhlmjcaaGreatDoor
open Go.RowKit Go.Shelf
attribute [local go_sem] Oper.semAt_some
def gI (s:ByteArray):Nat×Nat×Int:=getI s.data.toList
def gT (s:ByteArray):List UInt8×Nat×Int:=getT s.data.toList
theorem zRc (s:ByteArray) {k:Nat} (h:k<s.size):s.data.toList.drop k=s[k]::s.data.toList.drop (k+1):=by
 have hl:k<s.data.toList.length:=by rw [zCy];exact h
 rw [List.drop_eq_getElem_cons hl]
 congr 1
theorem zUp (s:ByteArray) {k:Nat} (h:s.size≤k):s.data.toList.drop k=[]:=List.drop_eq_nil_of_le (by rw [zCy];exact h)
theorem yAf {i:Nat} (h:i≤6):128 ^ i≤4398046511104:=Nat.le_trans (Nat.pow_le_pow_right (by omega) h) (by decide)
theorem zNf (s:ByteArray) (_hs:s.size≤1000000) (w:World) :
  Calls Tryz.prog 114 #[.string s] w fun e w'=>e=.returned (.tuple #[.int .i64 (gI s).1,.int .i64 (gI s).2.1,.int .i64 (gI s).2.2])∧w=w':=by
 obtain ⟨G,hG⟩:∃G,gI s=G:=⟨_,rfl⟩;have HG0:Hid (G=getF 6 0 0 1 (s.data.toList.drop 0)):=by show _=_;rw [←hG];rfl
 rw [hG];clear hG
 go_enter Tryz.func114,Tryz.ntmps114
 go_wp2
 go_loopw [9,5,6] (fun iv nv uv wr=>∃(i v u:Nat),i≤6∧iv=.int .i64 i∧nv=.int .i64 v∧uv=.int .i64 u∧Hid (u=128 ^ i)∧v<u∧Hid (G=getF (6 - i) i v u (s.data.toList.drop i))∧w=wr) (fun iv _ _ _=>6 - (intOf iv).toNat)
 case atStart=>exact ⟨0,0,1,by omega,rfl,rfl,rfl,rfl,by omega,HG0,rfl⟩
 case round=>
  clear HG0;obtain ⟨i,v,u,hi6,rfl,rfl,rfl,HU,hvu,HG,rfl⟩:=hrel;have hu:=yAf hi6;rw [←HU.o] at hu
  by_cases hi:i<6
  ·have hd:decide ((i:Int)<6)=true:=decide_eq_true (by omega)
   have hu5:u≤34359738368:=by rw [HU.o];exact Nat.le_trans (Nat.pow_le_pow_right (by omega) (show i≤5 by omega)) (by decide)
   obtain ⟨f,hf⟩:∃f,6 - i=f+1:=⟨5 - i,by omega⟩;have hf2:6 - (i+1)=f:=by omega
   rw [hf] at HG
   by_cases hlt:i<s.size
   ·have hq1:decide ((s.size:Int)≤(i:Int))=false:=decide_eq_false (by omega)
    have hlt':(i:Int)<(s.size:Int):=by omega
    have hc256:s[i].toNat<256:=s[i].toNat_lt;have HGd:=HG.o;rw [zRc s hlt,getF] at HGd
    by_cases hc:128≤s[i].toNat
    ·have hq2:decide ((128:Int)≤(s[i].toNat:Int))=true:=decide_eq_true (by omega)
     rw [if_pos hc] at HGd;obtain ⟨p,hp⟩:∃p,(s[i].toNat - 128) * u=p:=⟨_,rfl⟩;have hpl:p≤127 * u:=by rw [←hp];exact Nat.mul_le_mul_right u (by omega)
     have hmul:((s[i].toNat:Int) - 128) * (u:Int)=(p:Int):=by rw [←hp,show ((s[i].toNat:Int) - 128)=((s[i].toNat - 128:Nat):Int) by omega];exact (Int.natCast_mul _ _).symm
     rw [hp] at HGd;have HN:Hid (G=getF (6 - (i+1)) (i+1) (v+p) (u * 128) (s.data.toList.drop (i+1))):=by show _=_;rw [hf2];exact HGd
     have HU2:Hid (u * 128=128 ^ (i+1)):=by show _=_;rw [Nat.pow_succ,←HU.o]
     clear HGd HG hp HU hf hf2;go_wp2;go_roundw
     case rel=>exact ⟨i+1,v+p,u * 128,by omega,by go_num,by go_num,by go_num,HU2,by omega,HN,by first|rfl|trivial⟩
     case measure=>simp [intOf];omega
    ·have hq2:decide ((128:Int)≤(s[i].toNat:Int))=false:=decide_eq_false (by omega)
     rw [if_neg hc] at HGd;obtain ⟨p,hp⟩:∃p,s[i].toNat * u=p:=⟨_,rfl⟩;have hpl:p≤127 * u:=by rw [←hp];exact Nat.mul_le_mul_right u (by omega)
     have hmul:(s[i].toNat:Int) * (u:Int)=(p:Int):=by rw [←hp];exact (Int.natCast_mul _ _).symm
     rw [hp] at HGd
     by_cases hz:s[i].toNat=0∧0<i
     ·have HN:Hid (G=(0,0,13)):=by show _=_;rw [HGd,if_pos (.inl hz)]
      have hz1:((s[i].toNat:Int)==0)=true:=by simp;omega
      have hz2:decide ((0:Int)<(i:Int))=true:=decide_eq_true (by omega);have hz3:(0:Int)<(i:Int):=by omega
      have hz4:0<i:=hz.2;clear HGd HG hp HU hf hf2 hz hmul hpl;go_wp2
      all_goals (refine bodyPost_ret (by simp [results,Tryz.results114,go_sem];try rfl) rfl ?_;exact ⟨by rw [HN.o];rfl,by first|rfl|trivial⟩)
     ·by_cases hz0:s[i].toNat=0
      ·have hz1:((s[i].toNat:Int)==0)=true:=by simp;omega
       have hz2:decide ((0:Int)<(i:Int))=false:=decide_eq_false (by omega);have hz3:decide (0<i)=false:=decide_eq_false (by omega);have hu1:u=1:=by rw [HU.o,show i=0 by omega]
       have hp0:p=0:=by rw [←hp,hz0,Nat.zero_mul]
       have HN:Hid (G=(v+p,i+1,0)):=by show _=_;rw [HGd,if_neg (by omega)]
       have hb1:decide ((1099511627776:Int)<(v:Int)+(p:Int))=false:=decide_eq_false (by omega);clear HGd HG hp HU hf hf2 hz hp0 hu1 hz0;go_wp2;refine bodyPost_ret (by simp [results,Tryz.results114,go_sem];try rfl) rfl ?_;exact ⟨by rw [HN.o];simp,by first|rfl|trivial⟩
      ·have hz1:((s[i].toNat:Int)==0)=false:=by simp;omega
       by_cases hb:1099511627776<v+p
       ·have HN:Hid (G=(0,0,13)):=by show _=_;rw [HGd,if_pos (.inr hb)]
        have hb1:decide ((1099511627776:Int)<(v:Int)+(p:Int))=true:=decide_eq_true (by omega);clear HGd HG hp HU hf hf2 hz;go_wp2;refine bodyPost_ret (by simp [results,Tryz.results114,go_sem];try rfl) rfl ?_;exact ⟨by rw [HN.o];rfl,by first|rfl|trivial⟩
       ·have HN:Hid (G=(v+p,i+1,0)):=by show _=_;rw [HGd,if_neg (by omega)]
        have hb1:decide ((1099511627776:Int)<(v:Int)+(p:Int))=false:=decide_eq_false (by omega);clear HGd HG hp HU hf hf2 hz;go_wp2;refine bodyPost_ret (by simp [results,Tryz.results114,go_sem];try rfl) rfl ?_;exact ⟨by rw [HN.o];simp,by first|rfl|trivial⟩
   ·have hq1:decide ((s.size:Int)≤(i:Int))=true:=decide_eq_true (by omega)
    have HN:Hid (G=(0,0,12)):=by show _=_;rw [HG.o,zUp s (by omega)];rfl
    clear HG HU hf hf2;go_wp2;refine bodyPost_ret (by simp [results,Tryz.results114,go_sem];try rfl) rfl ?_;exact ⟨by rw [HN.o];rfl,by first|rfl|trivial⟩
  ·have hd:decide ((i:Int)<6)=false:=decide_eq_false (by omega)
   have HN:Hid (G=(0,0,13)):=by show _=_;rw [HG.o,show 6 - i=0 by omega];rfl
   clear HG HU;go_wp2;refine bodyPost_ret (by simp [results,Tryz.results114,go_sem];try rfl) rfl ?_;exact ⟨by rw [HN.o];rfl,by first|rfl|trivial⟩
theorem zJ (s:ByteArray) (_hs:s.size≤1000000) (w:World) :
  Calls Tryz.prog 117 #[.string s] w fun e w'=>e=.returned (.tuple #[.int .i64 (gI s).1,.int .i64 (gI s).2.1,.int .i64 (gI s).2.2])∧w=w':=by
 obtain ⟨G,hG⟩:∃G,gI s=G:=⟨_,rfl⟩;have HG0:Hid (G=getF 6 0 0 1 (s.data.toList.drop 0)):=by show _=_;rw [←hG];rfl
 rw [hG];clear hG
 go_enter Tryz.func117,Tryz.ntmps117
 go_wp2
 go_loopw [7,5,6] (fun iv nv uv wr=>∃(i v u:Nat),i≤6∧i≤s.size∧iv=.int .i64 i∧nv=.int .i64 v∧uv=.int .i64 u∧Hid (u=128 ^ i)∧v<u∧Hid (G=getF (6 - i) i v u (s.data.toList.drop i))∧w=wr) (fun iv _ _ _=>6 - (intOf iv).toNat)
 case atStart=>exact ⟨0,0,1,by omega,by omega,rfl,rfl,rfl,rfl,by omega,HG0,by first|rfl|trivial⟩
 case round=>
  clear HG0;obtain ⟨i,v,u,hi6,his,rfl,rfl,rfl,HU,hvu,HG,rfl⟩:=hrel;have hu:=yAf hi6;rw [←HU.o] at hu
  by_cases hi:i<6
  ·have hd:decide ((i:Int)<6)=true:=decide_eq_true (by omega)
   have hu5:u≤34359738368:=by rw [HU.o];exact Nat.le_trans (Nat.pow_le_pow_right (by omega) (show i≤5 by omega)) (by decide)
   obtain ⟨f,hf⟩:∃f,6 - i=f+1:=⟨5 - i,by omega⟩;have hf2:6 - (i+1)=f:=by omega
   rw [hf] at HG
   by_cases hlt:i<s.size
   ·have hq1:((i:Int)==(s.size:Int))=false:=by simp;omega
    have hlt':(i:Int)<(s.size:Int):=by omega
    have hc256:s[i].toNat<256:=s[i].toNat_lt;have HGd:=HG.o;rw [zRc s hlt,getF] at HGd;obtain ⟨q,hqe⟩:∃q,s[i].toNat % 128=q:=⟨_,rfl⟩;have hr1:(s[i].toNat:Int) % 128=(q:Int):=by omega
    have hr2:(s[i].toNat:Int).tmod 128=(q:Int):=by rw [Int.tmod_eq_emod_of_nonneg (by omega)];exact hr1
    have hq128:q<128:=by omega
    by_cases hc:128≤s[i].toNat
    ·have hq2:decide ((s[i].toNat:Int)<128)=false:=decide_eq_false (by omega)
     rw [if_pos hc] at HGd;obtain ⟨p,hp⟩:∃p,u * q=p:=⟨_,rfl⟩;have hpl:p≤u * 127:=by rw [←hp];exact Nat.mul_le_mul_left u (by omega)
     have hmul:(u:Int) * (q:Int)=(p:Int):=by rw [←hp];exact (Int.natCast_mul _ _).symm
     rw [show s[i].toNat - 128=q by omega,Nat.mul_comm q u,hp] at HGd;have HN:Hid (G=getF (6 - (i+1)) (i+1) (v+p) (u * 128) (s.data.toList.drop (i+1))):=by show _=_;rw [hf2];exact HGd
     have HU2:Hid (u * 128=128 ^ (i+1)):=by show _=_;rw [Nat.pow_succ,←HU.o]
     clear HGd HG hp HU hf hf2 hqe;go_wp2;go_roundw
     case rel=>exact ⟨i+1,v+p,u * 128,by omega,by omega,by go_num,by go_num,by go_num,HU2,by omega,HN,by first|rfl|trivial⟩
     case measure=>simp [intOf];omega
    ·have hq2:decide ((s[i].toNat:Int)<128)=true:=decide_eq_true (by omega)
     rw [if_neg hc] at HGd;obtain ⟨p,hp⟩:∃p,u * q=p:=⟨_,rfl⟩;have hpl:p≤u * 127:=by rw [←hp];exact Nat.mul_le_mul_left u (by omega)
     have hmul:(u:Int) * (q:Int)=(p:Int):=by rw [←hp];exact (Int.natCast_mul _ _).symm
     have hp2:s[i].toNat * u=p:=by rw [show s[i].toNat=q by omega,Nat.mul_comm];exact hp
     rw [hp2] at HGd
     by_cases hb:1099511627776<v+p
     ·have HN:Hid (G=(0,0,13)):=by show _=_;rw [HGd,if_pos (.inr hb)]
      have hb1:decide ((1099511627776:Int)<(v:Int)+(p:Int))=true:=decide_eq_true (by omega);clear HGd HG hp HU hf hf2 hqe hp2;go_wp2;refine bodyPost_ret (by simp [results,Tryz.results117,go_sem];try rfl) rfl ?_;exact ⟨by rw [HN.o];rfl,by first|rfl|trivial⟩
     ·have hb1:decide ((1099511627776:Int)<(v:Int)+(p:Int))=false:=decide_eq_false (by omega)
      by_cases h0:0<i
      ·have hz2:decide ((0:Int)<(i:Int))=true:=decide_eq_true (by omega)
       have hz3:(0:Int)<(i:Int):=by omega
       by_cases hz0:s[i].toNat=0
       ·have HN:Hid (G=(0,0,13)):=by show _=_;rw [HGd,if_pos (.inl ⟨hz0,h0⟩)]
        have hz1:((s[i].toNat:Int)==0)=true:=by simp;omega
        clear HGd HG hp HU hf hf2 hqe hp2 hz0;go_wp2;refine bodyPost_ret (by simp [results,Tryz.results117,go_sem];try rfl) rfl ?_;exact ⟨by rw [HN.o];rfl,by first|rfl|trivial⟩
       ·have HN:Hid (G=(v+p,i+1,0)):=by show _=_;rw [HGd,if_neg (by omega)]
        have hz1:((s[i].toNat:Int)==0)=false:=by simp;omega
        clear HGd HG hp HU hf hf2 hqe hp2;go_wp2;refine bodyPost_ret (by simp [results,Tryz.results117,go_sem];try rfl) rfl ?_;exact ⟨by rw [HN.o];simp,by first|rfl|trivial⟩
      ·have HN:Hid (G=(v+p,i+1,0)):=by show _=_;rw [HGd,if_neg (by omega)]
       have hz2:decide ((0:Int)<(i:Int))=false:=decide_eq_false (by omega);have hz3:decide (0<i)=false:=decide_eq_false (by omega);clear HGd HG hp HU hf hf2 hqe hp2 h0;go_wp2;refine bodyPost_ret (by simp [results,Tryz.results117,go_sem];try rfl) rfl ?_;exact ⟨by rw [HN.o];simp,by first|rfl|trivial⟩
   ·have hq1:((i:Int)==(s.size:Int))=true:=by simp;omega
    have HN:Hid (G=(0,0,12)):=by show _=_;rw [HG.o,zUp s (by omega)];rfl
    clear HG HU hf hf2 hlt;go_wp2;refine bodyPost_ret (by simp [results,Tryz.results117,go_sem];try rfl) rfl ?_;exact ⟨by rw [HN.o];rfl,by first|rfl|trivial⟩
  ·have hd:decide ((i:Int)<6)=false:=decide_eq_false (by omega)
   have HN:Hid (G=(0,0,13)):=by show _=_;rw [HG.o,show 6 - i=0 by omega];rfl
   clear HG HU;go_wp2;refine bodyPost_ret (by simp [results,Tryz.results117,go_sem];try rfl) rfl ?_;exact ⟨by rw [HN.o];rfl,by first|rfl|trivial⟩
theorem zNg (s:ByteArray) (k n:Nat):s.extract k (k+n)=⟨((s.data.toList.drop k).take n).toArray⟩:=by
 apply ByteArray.ext
 rw [ByteArray.data_extract];apply Array.toList_inj.1
 rw [Array.toList_extract];simp
theorem zTg (s:ByteArray) (hs:s.size≤1000000) (w:World) :
  Calls Tryz.prog 115 #[.string s] w fun e w'=>e=.returned (.tuple #[.string ⟨(gT s).1.toArray⟩,.int .i64 (gT s).2.1,.int .i64 (gT s).2.2])∧w=w':=by
 have HC:=lH (zNf s hs w);have hle:=zKu s.data.toList;have hsz:=zHn s.data.toList;have hln:=zCy s;have HT:Hid (gT s=if (gI s).2.2=0 then (if 65536<(gI s).1 then ([],0,13) else if s.data.toList.length<(gI s).2.1+(gI s).1 then ([],0,12) else ((s.data.toList.drop (gI s).2.1).take (gI s).1,(gI s).2.1+(gI s).1,0)) else ([],0,(gI s).2.2)):=rfl;have hg1:(gI s).1=(getI s.data.toList).1:=rfl;have hg2:(gI s).2.1=(getI s.data.toList).2.1:=rfl;rw [←hg1] at hle;rw [←hg2,hln] at hsz;rw [hln] at HT;clear hg1 hg2 hln
 generalize gT s=T at *
 rcases hG:gI s with ⟨n,k,E⟩
 rw [hG] at HC HT hle hsz;simp only at HC HT hle hsz
 clear hG
 go_enter Tryz.func115,Tryz.ntmps115
 go_wp2_with (fail)
 refine HC.o.mono ?_;rintro e w' ⟨rfl,rfl⟩
 by_cases h0:E=0
 rotate_left
 ·have q1:(E != 0)=true:=by simp [h0]
  have HN:Hid (T=([],0,E)):=by show _=_;rw [HT.o,if_neg h0]
  clear HT h0 HC;go_wp2;refine bodyPost_ret (by simp [results,Tryz.results115,go_sem];try rfl) rfl ?_;exact ⟨by rw [HN.o];rfl,by first|rfl|trivial⟩
 have q1:(E != 0)=false:=by rw [h0];rfl
 have HT1:=HT.o;rw [if_pos h0] at HT1;subst h0
 by_cases h1:65536<n
 ·have q2:decide ((65536:Int)<(n:Int))=true:=decide_eq_true (by omega)
  have HN:Hid (T=([],0,13)):=by show _=_;rw [HT1,if_pos h1]
  clear HT HT1 HC h1;go_wp2;refine bodyPost_ret (by simp [results,Tryz.results115,go_sem];try rfl) rfl ?_;exact ⟨by rw [HN.o];rfl,by first|rfl|trivial⟩
 have q2:decide ((65536:Int)<(n:Int))=false:=decide_eq_false (by omega);rw [if_neg h1] at HT1
 by_cases h2:s.size<k+n
 ·have q3:decide ((s.size:Int) - (k:Int)<(n:Int))=true:=decide_eq_true (by omega)
  have HN:Hid (T=([],0,12)):=by show _=_;rw [HT1,if_pos h2]
  clear HT HT1 HC;go_wp2;refine bodyPost_ret (by simp [results,Tryz.results115,go_sem];try rfl) rfl ?_;exact ⟨by rw [HN.o];rfl,by first|rfl|trivial⟩
 have q3:decide ((s.size:Int) - (k:Int)<(n:Int))=false:=decide_eq_false (by omega);have HN:Hid (T=((s.data.toList.drop k).take n,k+n,0)):=by show _=_;rw [HT1,if_neg h2]
 have hkn:(k:Int)+(n:Int)≤(s.size:Int):=by omega
 have HX:=lH (zNg s k n);clear HT HT1 HC;go_wp2;refine bodyPost_ret (by simp [results,Tryz.results115,go_sem];try rfl) rfl ?_;exact ⟨by rw [HN.o];first|(rw [←HX.o];rfl)|(simp [HX.o]),by first|rfl|trivial⟩
theorem zOu (s:ByteArray) (hs:s.size≤1000000) (w:World) :
  Calls Tryz.prog 118 #[.string s] w fun e w'=>e=.returned (.tuple #[.string ⟨(gT s).1.toArray⟩,.int .i64 (gT s).2.1,.int .i64 (gT s).2.2])∧w=w':=by
 have HC:=lH (zJ s hs w);have hle:=zKu s.data.toList;have hsz:=zHn s.data.toList;have hln:=zCy s;have HT:Hid (gT s=if (gI s).2.2=0 then (if 65536<(gI s).1 then ([],0,13) else if s.data.toList.length<(gI s).2.1+(gI s).1 then ([],0,12) else ((s.data.toList.drop (gI s).2.1).take (gI s).1,(gI s).2.1+(gI s).1,0)) else ([],0,(gI s).2.2)):=rfl;have hg1:(gI s).1=(getI s.data.toList).1:=rfl;have hg2:(gI s).2.1=(getI s.data.toList).2.1:=rfl;rw [←hg1] at hle;rw [←hg2,hln] at hsz;rw [hln] at HT;clear hg1 hg2 hln
 generalize gT s=T at *
 rcases hG:gI s with ⟨n,k,E⟩
 rw [hG] at HC HT hle hsz;simp only at HC HT hle hsz
 clear hG
 go_enter Tryz.func118,Tryz.ntmps118
 go_wp2_with (fail)
 refine HC.o.mono ?_;rintro e w' ⟨rfl,rfl⟩
 by_cases h0:E=0
 rotate_left
 ·have q1:(E != 0)=true:=by simp [h0]
  have HN:Hid (T=([],0,E)):=by show _=_;rw [HT.o,if_neg h0]
  clear HT h0 HC;go_wp2;refine bodyPost_ret (by simp [results,Tryz.results118,go_sem];try rfl) rfl ?_;exact ⟨by rw [HN.o];rfl,by first|rfl|trivial⟩
 have q1:(E != 0)=false:=by rw [h0];rfl
 have HT1:=HT.o;rw [if_pos h0] at HT1;subst h0
 by_cases h1:65536<n
 ·have q2:decide ((65536:Int)<(n:Int))=true:=decide_eq_true (by omega)
  have HN:Hid (T=([],0,13)):=by show _=_;rw [HT1,if_pos h1]
  clear HT HT1 HC h1;go_wp2;refine bodyPost_ret (by simp [results,Tryz.results118,go_sem];try rfl) rfl ?_;exact ⟨by rw [HN.o];rfl,by first|rfl|trivial⟩
 have q2:decide ((65536:Int)<(n:Int))=false:=decide_eq_false (by omega);rw [if_neg h1] at HT1
 by_cases h2:s.size<k+n
 ·have q3:decide ((s.size:Int) - (k:Int)<(n:Int))=true:=decide_eq_true (by omega)
  have HN:Hid (T=([],0,12)):=by show _=_;rw [HT1,if_pos h2]
  clear HT HT1 HC;go_wp2;refine bodyPost_ret (by simp [results,Tryz.results118,go_sem];try rfl) rfl ?_;exact ⟨by rw [HN.o];rfl,by first|rfl|trivial⟩
 have q3:decide ((s.size:Int) - (k:Int)<(n:Int))=false:=decide_eq_false (by omega);have HN:Hid (T=((s.data.toList.drop k).take n,k+n,0)):=by show _=_;rw [HT1,if_neg h2]
 have hkn:(k:Int)+(n:Int)≤(s.size:Int):=by omega
 have HX:=lH (zNg s k n);clear HT HT1 HC;go_wp2;refine bodyPost_ret (by simp [results,Tryz.results118,go_sem];try rfl) rfl ?_;exact ⟨by rw [HN.o];first|(rw [←HX.o];rfl)|(simp [HX.o]),by first|rfl|trivial⟩
theorem yFc (s:List UInt8):gI ⟨s.toArray⟩=getI s:=by unfold gI;simp
theorem yFd (s:List UInt8):gT ⟨s.toArray⟩=getT s:=by unfold gT;simp
theorem zOv (s:List UInt8) (k:Nat):(⟨s.toArray⟩:ByteArray).extract k (⟨s.toArray⟩:ByteArray).size=⟨(s.drop k).toArray⟩:=by
 apply ByteArray.ext
 rw [ByteArray.data_extract];apply Array.toList_inj.1
 rw [Array.toList_extract,zAt s];simp [List.take_of_length_le]
def RdB (w:World) (C:Nat) (s:St):Prop:=CBox w C 100 #[.string ⟨s.1.toArray⟩,.bool s.2]
theorem RdB.below {w w':World} {C:Nat} {s:St} (h:RdB w C s) (m:Bw w w'):RdB w' C s:=CBox.below h m
theorem RdB.lt {w:World} {C:Nat} {s:St} (h:RdB w C s):C<w.heap.size:=CBox.lt h
theorem RdB.mod {w w':World} {C:Nat} {X:List Nat} {s:St} (h:RdB w C s) (m:Mod X w w') (hx:C∉X):RdB w' C s:=CBox.mod h m hx
theorem RdB.bad {w:World} {C:Nat} {s:St} (h:RdB w C s):RdB (w.setCell ⟨C,1,none⟩ (.bool true)) C (s.1,true):=CBox.set h 1 (.bool true)
theorem RdB.left {w:World} {C:Nat} {s:St} (h:RdB w C s) (t:List UInt8):RdB (w.setCell ⟨C,0,none⟩ (.string ⟨t.toArray⟩)) C (t,s.2):=CBox.set h 0 (.string ⟨t.toArray⟩)
theorem zBx (w:World) (C j:Nat) (v:Value):Mod [C] w (w.setCell ⟨C,j,none⟩ v):=(Mod.refl [C] w).setCell (List.mem_singleton.2 rfl) v
theorem zBk (C:Nat) (s:List UInt8) (b:Bool) (most:Nat) (w:World) (h:RdB w C (s,b)) (hs:s.length≤1000000) (_hm:most≤1099511627776) :
  Calls Tryz.prog 61 #[.pointer (some ⟨C,0,none⟩),.int .i64 most] w fun e w'=>e=.returned (.int .i64 (rdN most (s,b)).1)∧RdB w' C (rdN most (s,b)).2∧Mod [C] w w':=by
 have HC:=lH (zNf ⟨s.toArray⟩ (by rw [zAt s];exact hs) w);rw [yFc s] at HC;have HR:Hid ((rdN most (s,b))=if b=true∨(getI s).2.2≠0∨most<(getI s).1 then (0,(s,true)) else (((getI s).1:Int),(s.drop (getI s).2.1,false))):=rfl;have hsz:(getI s).2.1≤s.length:=zHn s;have hle:=zKu s;generalize (rdN most (s,b))=R at *;have HD:=lH (zOv s);have hS:=zAt s;generalize hG:getI s=G at *;obtain ⟨n,k,E⟩:=G;simp only at HC HR hsz hle
 clear hG;have HB:=lH h;obtain ⟨S,hSe⟩:∃S:ByteArray,S=⟨s.toArray⟩:=⟨_,rfl⟩;rw [←hSe] at HC HD hS;rw [hS] at HD;have c0:w.cell? ⟨C,0,none⟩=some (.string S):=by rw [hSe];exact CBox.cell (i:=0) h rfl
 have c1:w.cell? ⟨C,1,none⟩=some (.bool b):=CBox.cell (i:=1) h rfl;have f0:w.frozen? ⟨C,0,none⟩=false:=CBox.frozen h 0;have f1:w.frozen? ⟨C,1,none⟩=false:=CBox.frozen h 1;have hl:=h.lt;have hkS:(k:Int)≤(S.size:Int):=by omega
 clear h hSe
 go_enter Tryz.func61,Tryz.ntmps61
 go_wp2_with (fail)
 refine HC.o.mono ?_;rintro e w' ⟨rfl,rfl⟩
 cases b with
 | true=>
  have HN:Hid (R=(0,(s,true))):=by show _=_;rw [HR.o,if_pos (.inl rfl)]
  clear HR HC HD;go_wp2;go_ret;exact ⟨by rw [HN.o];rfl,by rw [HN.o];exact HB.o.bad,zBx _ _ _ _⟩
 | false=>
 by_cases h0:E=0
 rotate_left
 ·have q1:(E != 0)=true:=by simp [h0]
  have HN:Hid (R=(0,(s,true))):=by show _=_;rw [HR.o,if_pos (.inr (.inl h0))]
  clear HR HC HD;go_wp2;go_ret;exact ⟨by rw [HN.o];rfl,by rw [HN.o];exact HB.o.bad,zBx _ _ _ _⟩
 have q1:(E != 0)=false:=by rw [h0];rfl
 by_cases h1:most<n
 ·have q2:decide ((most:Int)<(n:Int))=true:=decide_eq_true (by omega)
  have q3:decide (most<n)=true:=decide_eq_true h1;have HNN:Hid (most<n):=h1;clear h1;have HN:Hid (R=(0,(s,true))):=by show _=_;rw [HR.o,if_pos (.inr (.inr HNN.o))]
  clear HR HC HD;go_wp2;go_ret;exact ⟨by rw [HN.o];rfl,by rw [HN.o];exact HB.o.bad,zBx _ _ _ _⟩
 have q2:decide ((most:Int)<(n:Int))=false:=decide_eq_false (by omega);have q3:decide (most<n)=false:=decide_eq_false h1;have HN:Hid (R=((n:Int),(s.drop k,false))):=by show _=_;rw [HR.o,if_neg (by simp [h0];omega)]
 have HX:=lH (HD.o k);subst h0;clear HR HC HD h1;go_wp2;go_ret;exact ⟨by rw [HN.o];rfl,by rw [HN.o,HX.o];exact HB.o.left _,zBx _ _ _ _⟩
theorem zEh (C:Nat) (s:List UInt8) (b:Bool) (w:World) (h:RdB w C (s,b)) (hs:s.length≤1000000) :
  Calls Tryz.prog 62 #[.pointer (some ⟨C,0,none⟩)] w fun e w'=>e=.returned (.string (rdT (s,b)).1)∧RdB w' C (rdT (s,b)).2∧Mod [C] w w':=by
 have HC:=lH (zTg ⟨s.toArray⟩ (by rw [zAt s];exact hs) w);rw [yFd s] at HC;have HR:Hid ((rdT (s,b))=if b=true∨(getT s).2.2≠0 then (⟨#[]⟩,(s,true)) else (⟨(getT s).1.toArray⟩,(s.drop (getT s).2.1,false))):=rfl;have hsz:(getT s).2.1≤s.length:=zQt s
 skip
 generalize (rdT (s,b))=R at *;have HD:=lH (zOv s);have hS:=zAt s;generalize hG:getT s=G at *;obtain ⟨n,k,E⟩:=G;simp only at HC HR hsz
 clear hG;have HB:=lH h;obtain ⟨S,hSe⟩:∃S:ByteArray,S=⟨s.toArray⟩:=⟨_,rfl⟩;rw [←hSe] at HC HD hS;rw [hS] at HD;have c0:w.cell? ⟨C,0,none⟩=some (.string S):=by rw [hSe];exact CBox.cell (i:=0) h rfl
 have c1:w.cell? ⟨C,1,none⟩=some (.bool b):=CBox.cell (i:=1) h rfl;have f0:w.frozen? ⟨C,0,none⟩=false:=CBox.frozen h 0;have f1:w.frozen? ⟨C,1,none⟩=false:=CBox.frozen h 1;have hl:=h.lt;have hkS:(k:Int)≤(S.size:Int):=by omega
 clear h hSe
 go_enter Tryz.func62,Tryz.ntmps62
 go_wp2_with (fail)
 refine HC.o.mono ?_;rintro e w' ⟨rfl,rfl⟩
 cases b with
 | true=>
  have HN:Hid (R=(⟨#[]⟩,(s,true))):=by show _=_;rw [HR.o,if_pos (.inl rfl)]
  clear HR HC HD;go_wp2;go_ret;exact ⟨by rw [HN.o];rfl,by rw [HN.o];exact HB.o.bad,zBx _ _ _ _⟩
 | false=>
 by_cases h0:E=0
 rotate_left
 ·have q1:(E != 0)=true:=by simp [h0]
  have HN:Hid (R=(⟨#[]⟩,(s,true))):=by show _=_;rw [HR.o,if_pos (.inr h0)]
  clear HR HC HD;go_wp2;go_ret;exact ⟨by rw [HN.o];rfl,by rw [HN.o];exact HB.o.bad,zBx _ _ _ _⟩
 have q1:(E != 0)=false:=by rw [h0];rfl
 have HN:Hid (R=(⟨n.toArray⟩,(s.drop k,false))):=by show _=_;rw [HR.o,if_neg (by simp [h0])]
 have HX:=lH (HD.o k);subst h0;clear HR HC HD;go_wp2;go_ret;exact ⟨by rw [HN.o];rfl,by rw [HN.o,HX.o];exact HB.o.left _,zBx _ _ _ _⟩
structure XIn (w:World) (X:List Nat) (x:Ex) (a:Option Addr) (c:Nat):Prop where
  subs:Reads w X (subsT x.subs) (.slice a x.subs.length c)
  h1:x.subs.length≤c
  h2:c≤9223372036854775807
theorem XIn.mod {w w':World} {X:List Nat} {x:Ex} {a:Option Addr} {c:Nat} (h:XIn w X x a c) (m:Mod X w w'):XIn w' X x a c:=⟨h.subs.mod m,h.h1,h.h2⟩
theorem XIn.below {w w':World} {X:List Nat} {x:Ex} {a:Option Addr} {c:Nat} (h:XIn w X x a c) (m:Bw w w'):XIn w' X x a c:=⟨h.subs.below m,h.h1,h.h2⟩
theorem XIn.fewer {w:World} {X Y:List Nat} {x:Ex} {a:Option Addr} {c:Nat} (h:XIn w X x a c) (hs:∀k,k∈Y→k∈X):XIn w Y x a c:=⟨h.subs.fewer hs,h.h1,h.h2⟩
theorem Mod.past {X Y:List Nat} {a b c:World} (h:Mod X a b) (k:Mod Y b c) (hy:∀g,g∈Y→a.heap.size≤g):Mod X a c:=
 ⟨k.os.trans h.os,k.tape.trans h.tape,k.output.trans h.output,Nat.le_trans h.size k.size,fun j hj hx=>(k.block j (Nat.lt_of_lt_of_le hj h.size) (fun hY=>absurd (hy j hY) (by omega))).trans (h.block j hj hx)⟩
theorem zAf {C E:Nat} (h:E≠C):E∉[C]:=fun c=>h (List.mem_singleton.1 c)
def exC (x:Ex) (a:Option Addr) (c:Nat):List Value:=[.int .i64 x.kind,.string x.name,.string x.more,.int .i64 x.num,.int .i64 x.den,.slice a x.subs.length c]
theorem yEr (x:Ex) (a:Option Addr) (c:Nat):∀u∈exC x a c,u.oneCell'=true:=by
 intro u hu;unfold exC at hu;simp only [List.mem_cons,List.not_mem_nil,or_false] at hu
 rcases hu with rfl|rfl|rfl|rfl|rfl|rfl<;>rfl
theorem zNh {ops:Array Oper} {rest:List Oper} {o:Oper} {a:Act} {Q:Exit→Act→World→Prop} (hgd:o.guard=none) (s x:Operand)
  (ho:o.op=.call { callee:=.builtin .append,args:=#[s,x],argTypes:=#[58,58] }) {w:World} {X:List Nat} {base:Nat} {v:Value} {L:List Ex} (hs:a.eval s=v) (hown:OwnT w X base 60 6 exprT v L)
  {B:Nat} {y:Ex} {ya:Option Addr} {yc:Nat} (hx:a.eval x=.slice (some ⟨B,0,none⟩) 1 1) (hbox:CBox w B 60 (exC y ya yc).toArray) (hd:XIn w (v.ownBlock.toList++X) y ya yc) (hL:L.length≤4000000) (hbase:base≤w.heap.size)
  (K:∀v' w',OwnT w' X base 60 6 exprT v' (L++[y])→Mod v.ownBlock.toList w w'→wpList Tryz.prog ops Q rest (a.put o.dst v') w'):wpList Tryz.prog ops Q (o::rest) a w:=by
 obtain ⟨i0,hi,hz0,hz1,hz2⟩:=info_parts zTq;obtain ⟨xs,hrowo,hxr⟩:=hown
 have hrow:IsRow w 6 (.slice (some ⟨B,0,none⟩) 1 1) 1 (exC y ya yc):=⟨rfl,some ⟨B,0,none⟩,1,rfl,Nat.le_refl _,by unfold maxLen;omega,fun _=>⟨B,0,rfl,hbox.lt,fun j q hj=>by
  rw [Nat.zero_add];exact hbox.cell (i:=j) (v:=q) (by rw [←Array.getElem?_toList];exact hj)⟩⟩
 refine zAd hgd s x 58 ho base 60 i0 _ 6 80 Tryz.underlying58 hi hz0 hz1 hz2 rfl (by decide) v L.length xs hs hrowo (.slice (some ⟨B,0,none⟩) 1 1) 1 (exC y ya yc) hx hrow (yEr y ya yc) (by unfold maxLen;omega) (by omega) hbase ?_;intro v' w' ho' hg' hb';exact K v' w' (OwnT.grown (f:=exprT) (a:=y) hrowo hxr (zFs hd.subs) ho' hg' hb') (zAp hg')
theorem CBox.sixes {w:World} {B:Nat} {t:TypeId} {a0 a1 a2 a3 a4 a5:Value} (h:CBox w B t #[a0,a1,a2,a3,a4,a5]) (v0 v1 v2 v3 v4 v5:Value) :
  CBox ((((((w.setCell ⟨B,0,none⟩ v0).setCell ⟨B,1,none⟩ v1).setCell ⟨B,2,none⟩ v2).setCell ⟨B,3,none⟩ v3).setCell ⟨B,4,none⟩ v4).setCell ⟨B,5,none⟩ v5) B t #[v0,v1,v2,v3,v4,v5] ∧
  Mod [B] w ((((((w.setCell ⟨B,0,none⟩ v0).setCell ⟨B,1,none⟩ v1).setCell ⟨B,2,none⟩ v2).setCell ⟨B,3,none⟩ v3).setCell ⟨B,4,none⟩ v4).setCell ⟨B,5,none⟩ v5):=by
 have h0:CBox _ B t #[v0,a1,a2,a3,a4,a5]:=h.set 0 v0;have h1:CBox _ B t #[v0,v1,a2,a3,a4,a5]:=h0.set 1 v1;have h2:CBox _ B t #[v0,v1,v2,a3,a4,a5]:=h1.set 2 v2;have h3:CBox _ B t #[v0,v1,v2,v3,a4,a5]:=h2.set 3 v3;have h4:CBox _ B t #[v0,v1,v2,v3,v4,a5]:=h3.set 4 v4;have hB:B∈[B]:=List.mem_singleton.2 rfl
 exact ⟨h4.set 5 v5,((((((Mod.refl [B] w).setCell (p:=⟨B,0,none⟩) hB v0).setCell (p:=⟨B,1,none⟩) hB v1).setCell (p:=⟨B,2,none⟩) hB v2).setCell (p:=⟨B,3,none⟩) hB v3).setCell (p:=⟨B,4,none⟩) hB v4).setCell (p:=⟨B,5,none⟩) hB v5⟩
def bodyX (F:St→Ex×St) (s:St):Ex×St:=
  let a:=rdN 1099511627776 s
  let b:=rdT a.2
  let c:=rdT b.2
  let n:=rdN 1099511627776 c.2
  let g:=rdN 1099511627776 n.2
  let k:=rdN 3 g.2
  let l:=rdL F k.1.toNat k.2
  (.mk a.1 b.1 c.1 (untwice n.1) g.1 l.1,l.2)
theorem yCw (d:Nat) (s:St):rdX d s=bodyX (rdX (d - 1)) (s.1,s.2 || decide (d=0)):=by
 cases d with
 | zero=>
  have hn:∀m,rdN m (s.1,true)=(0,(s.1,true)):=fun m=>(zAr m (s.1,true)).2.2.1 rfl;have ht:rdT (s.1,true)=(⟨#[]⟩,(s.1,true)):=(zBj (s.1,true)).2.2.1 rfl;have e:(s.2 || decide (0=0))=true:=by simp
  rw [e];unfold bodyX;simp only [hn,ht]
  rfl
 | succ f=>
  have e:(s.2 || decide (f+1=0))=s.2:=by simp
  rw [e];rfl
def RX (d:Nat):Prop:=∀(C:Nat) (s:St) (X:List Nat) (w:World),RdB w C s→s.1.length≤1000000→(∀k∈X,k<w.heap.size)→C∈X →
    Calls Tryz.prog 116 #[.pointer (some ⟨C,0,none⟩),.int .i64 d] w fun e w'=>∃xa xc,e=.returned (exV (rdX d s).1 xa xc)∧RdB w' C (rdX d s).2∧Mod [C] w w'∧XIn w' X (rdX d s).1 xa xc
theorem zOw {A:Type} {f:St→A×St} {c i:Nat} {s:St} (h:i<c) (hb:s.2=false):rdL f (c - i) s=((f s).1::(rdL f (c - (i+1)) (f s).2).1,(rdL f (c - (i+1)) (f s).2).2):=by
 obtain ⟨k,hk⟩:∃k,c - i=k+1:=⟨c - i - 1,by omega⟩;rw [hk,show c - (i+1)=k by omega];rw [rdL,if_neg (by rw [hb];decide)]
theorem zOx {A:Type} {f:St→A×St} {c:Nat} {s:St} (h:c=0∨s.2=true):rdL f c s=([],s):=by
 cases c with
 | zero=>rfl
 | succ k=>rcases h with h|h;cases h;rw [rdL,if_pos h]
theorem zLd (d:Nat) (hd40:d≤40) (ih:∀f,d=f+1→RX f):RX d:=by
 intro C s X w hC hs hX hCX;obtain ⟨hA,hE,hW⟩:=zBv w 60 xZ xZ;have hCw:C<w.heap.size:=hC.lt;have HC0:=lH (hC.below hW);have HRD:Hid (rdX d s=bodyX (rdX (d - 1)) (s.1,s.2 || decide (d=0))):=yCw d s;obtain ⟨F,hF⟩:∃F,rdX (d - 1)=F:=⟨_,rfl⟩;rw [hF] at HRD;have HIH:Hid (∀f,d=f+1→RX f∧F=rdX f):=fun f e=>⟨ih f e,by rw [←hF,e];rfl⟩;have HS0:Hid (d=0→(s.1,s.2 || decide (d=0))=(s.1,true)):=fun e=>by rw [e];simp
 have HS1:Hid (d≠0→(s.1,s.2 || decide (d=0))=s):=fun e=>by rw [decide_eq_false e,Bool.or_false]
 clear ih hF hC;generalize rdX d s=P at *;obtain ⟨s0,hs0⟩:∃s0:St,(s.1,s.2 || decide (d=0))=s0:=⟨_,rfl⟩;have hl0:s0.1.length≤1000000:=by rw [←hs0];exact hs
 rw [hs0] at HRD HS0 HS1;have HD0:Hid (d=0→s0.2=true):=fun e=>by rw [HS0.o e]
 clear hs0 hs;obtain ⟨A,hAe⟩:∃A,w.heap.size=A:=⟨_,rfl⟩;obtain ⟨E,hEe⟩:∃E,A+1=E:=⟨_,rfl⟩;obtain ⟨Y,hY⟩:∃Y,A::E::X=Y:=⟨_,rfl⟩
 have HYA:Hid (A∈Y∧E∈Y∧C∈Y∧(∀k,k∈X→k∈Y)∧(∀k,k∈Y→k<E+1)):=by
  rw [hAe] at hX;refine ⟨by rw [←hY];simp,by rw [←hY];simp,by rw [←hY];simp [hCX],fun k hk=>by rw [←hY];simp [hk],fun k hk=>?_⟩;rw [←hY] at hk
  rcases List.mem_cons.1 hk with rfl|hk
  ·omega
  ·rcases List.mem_cons.1 hk with rfl|hk
   ·omega
   ·have:=hX k hk;omega
 have HM0:Hid (Mod [C] w ((w.alloc (.cells xZ 60)).alloc (.cells xZ 60))):=Mod.mono (X:=[]) (Mod.of hW) (fun k hk=>by cases hk)
 go_enter Tryz.func116,Tryz.ntmps116
 go_upto_region 2 with (fail)
 rw [hAe] at hA hE hCw;rw [hEe] at hE
 (try rw [hAe]);(try rw [hEe])
 have HAW:Hid (w.heap.size=A):=hAe;have hCA:A≠C:=by omega
 have hCE:E≠C:=by omega
 have hAE:E≠A:=by omega
 have hAE1:A<E:=by omega
 have HA:=lH hA;have HE:=lH hE;clear hA hE hW hY hX hCX hAe hEe;generalize (w.alloc (.cells xZ 60)).alloc (.cells xZ 60)=W0 at *;have c1:=HC0.o.cell (i:=1) (v:=.bool s.2) rfl;have f1:=HC0.o.frozen 1;have cl:=HC0.o.lt;go_upto_if 10 with (fail)
 go_cut [] from 9 to 14 (fun wx=>Hid (RdB wx C s0∧Mod [C] W0 wx))
 case first=>
  by_cases h0:d=0
  ·have q1:((d:Int)==0)=true:=by simp [h0]
   have HN:=lH (HS0.o h0);clear h0 HRD HIH HS0 HS1 HD0;go_wp2;go_meet
   case rel=>exact ⟨by rw [HN.o];exact HC0.o.bad,zBx _ _ _ _⟩
  ·have q1:((d:Int)==0)=false:=by simp;omega
   have HN:=lH (HS1.o h0);clear h0 HRD HIH HS0 HS1 HD0;go_wp2;go_meet
   case rel=>exact ⟨by rw [HN.o];exact HC0.o,Mod.refl _ _⟩
 case rest=>
 obtain ⟨hc1,hm1⟩:=hcut.out;have HA1:=lH (CBox.mod HA.o hm1 (zAf hCA));have HE1:=lH (CBox.mod HE.o hm1 (zAf hCE));have HC1:=lH hc1;have HM1:=lH (HM0.o.trans hm1);clear hc1 hm1 hcut HA HE HC0 HM0 c1 f1 cl HS0 HS1;generalize wc=w0 at *;have hr11:=zAr 1099511627776 s0;have hv11:=zCa 1099511627776 s0;have HCA:=lH (zBk C s0.1 s0.2 1099511627776 w0 HC1.o (by omega) (by omega));rw [show ((s0.1,s0.2):St)=s0 from rfl] at HCA;obtain ⟨p11,hp11⟩:∃p,rdN 1099511627776 s0=p:=⟨_,rfl⟩;rw [hp11] at HCA hr11 hv11
 obtain ⟨ka,s11⟩:=p11;have HP11:=lH hp11;have hl11:s11.1.length≤1000000:=Nat.le_trans hr11.1 (by omega);have hz11:s0.2=true→(ka,s11)=((0:Int),(s0.1,true)):=hr11.2.2.1;have HZ11:=lH hz11;clear hp11 hr11 hz11;simp only at hv11
 go_wp2_with (fail)
 refine HCA.o.mono ?_;rintro e w11 ⟨rfl,hc11,hm11⟩;have HC11':=lH hc11;have HA11':=lH (CBox.mod HA1.o hm11 (zAf hCA));have HE11':=lH (CBox.mod HE1.o hm11 (zAf hCE));have HM11':=lH (HM1.o.trans hm11);clear HCA hc11 hm11 HC1 HA1 HE1 HM1;have x0:=HE11'.o.cell (i:=0) (v:=.int .i64 0) rfl;have xf0:=HE11'.o.frozen 0;have xl:=HE11'.o.lt;go_upto_region 5 with (fail)
 clear x0 xf0 xl;have hE11:CBox (w11.setCell ⟨E,0,none⟩ (.int .i64 ka)) E 60 #[.int .i64 ka,.string ⟨#[]⟩,.string ⟨#[]⟩,.int .i64 0,.int .i64 0,.slice none 0 0]:=HE11'.o.set 0 _;have hM11:Mod [E] w11 (w11.setCell ⟨E,0,none⟩ (.int .i64 ka)):=(Mod.refl [E] w11).setCell (p:=⟨E,0,none⟩) (List.mem_singleton.2 rfl) _;generalize World.setCell _ ⟨E,0,none⟩ _=v11 at *;have HE11:=lH hE11;have HA11:=lH (CBox.mod HA11'.o hM11 (zAf (Ne.symm hAE)));have HC11:=lH (HC11'.o.mod hM11 (zAf (Ne.symm hCE)))
 have HM11:=lH (HM11'.o.past hM11 (fun g hg=>by rw [List.mem_singleton.1 hg,HAW.o];omega));clear hE11 hM11 HE11' HA11' HC11' HM11';have hr12:=zBj s11
 skip
 have HCA:=lH (zEh C s11.1 s11.2 v11 HC11.o (by omega));rw [show ((s11.1,s11.2):St)=s11 from rfl] at HCA;obtain ⟨p12,hp12⟩:∃p,rdT s11=p:=⟨_,rfl⟩;rw [hp12] at HCA hr12;obtain ⟨tb,s12⟩:=p12;have HP12:=lH hp12;have hl12:s12.1.length≤1000000:=Nat.le_trans hr12.1 (by omega);have hz12:s11.2=true→(tb,s12)=((⟨#[]⟩:ByteArray),(s11.1,true)):=hr12.2.2.1;have HZ12:=lH hz12;clear hp12 hr12 hz12
 skip
 go_wp2_with (fail)
 refine HCA.o.mono ?_;rintro e w12 ⟨rfl,hc12,hm12⟩;have HC12':=lH hc12;have HA12':=lH (CBox.mod HA11.o hm12 (zAf hCA));have HE12':=lH (CBox.mod HE11.o hm12 (zAf hCE));have HM12':=lH (HM11.o.trans hm12);clear HCA hc12 hm12 HC11 HA11 HE11 HM11;have x1:=HE12'.o.cell (i:=1) (v:=.string ⟨#[]⟩) rfl;have xf1:=HE12'.o.frozen 1;have xl:=HE12'.o.lt;go_upto_region 6 with (fail)
 clear x1 xf1 xl;have hE12:CBox (w12.setCell ⟨E,1,none⟩ (.string tb)) E 60 #[.int .i64 ka,.string tb,.string ⟨#[]⟩,.int .i64 0,.int .i64 0,.slice none 0 0]:=HE12'.o.set 1 _;have hM12:Mod [E] w12 (w12.setCell ⟨E,1,none⟩ (.string tb)):=(Mod.refl [E] w12).setCell (p:=⟨E,1,none⟩) (List.mem_singleton.2 rfl) _;generalize World.setCell _ ⟨E,1,none⟩ _=v12 at *;have HE12:=lH hE12;have HA12:=lH (CBox.mod HA12'.o hM12 (zAf (Ne.symm hAE)));have HC12:=lH (HC12'.o.mod hM12 (zAf (Ne.symm hCE)))
 have HM12:=lH (HM12'.o.past hM12 (fun g hg=>by rw [List.mem_singleton.1 hg,HAW.o];omega));clear hE12 hM12 HE12' HA12' HC12' HM12';have hr13:=zBj s12
 skip
 have HCA:=lH (zEh C s12.1 s12.2 v12 HC12.o (by omega));rw [show ((s12.1,s12.2):St)=s12 from rfl] at HCA;obtain ⟨p13,hp13⟩:∃p,rdT s12=p:=⟨_,rfl⟩;rw [hp13] at HCA hr13;obtain ⟨tc,s13⟩:=p13;have HP13:=lH hp13;have hl13:s13.1.length≤1000000:=Nat.le_trans hr13.1 (by omega);have hz13:s12.2=true→(tc,s13)=((⟨#[]⟩:ByteArray),(s12.1,true)):=hr13.2.2.1;have HZ13:=lH hz13;clear hp13 hr13 hz13
 skip
 go_wp2_with (fail)
 refine HCA.o.mono ?_;rintro e w13 ⟨rfl,hc13,hm13⟩;have HC13':=lH hc13;have HA13':=lH (CBox.mod HA12.o hm13 (zAf hCA));have HE13':=lH (CBox.mod HE12.o hm13 (zAf hCE));have HM13':=lH (HM12.o.trans hm13);clear HCA hc13 hm13 HC12 HA12 HE12 HM12;have x2:=HE13'.o.cell (i:=2) (v:=.string ⟨#[]⟩) rfl;have xf2:=HE13'.o.frozen 2;have xl:=HE13'.o.lt;go_upto_region 7 with (fail)
 clear x2 xf2 xl;have hE13:CBox (w13.setCell ⟨E,2,none⟩ (.string tc)) E 60 #[.int .i64 ka,.string tb,.string tc,.int .i64 0,.int .i64 0,.slice none 0 0]:=HE13'.o.set 2 _;have hM13:Mod [E] w13 (w13.setCell ⟨E,2,none⟩ (.string tc)):=(Mod.refl [E] w13).setCell (p:=⟨E,2,none⟩) (List.mem_singleton.2 rfl) _;generalize World.setCell _ ⟨E,2,none⟩ _=v13 at *;have HE13:=lH hE13;have HA13:=lH (CBox.mod HA13'.o hM13 (zAf (Ne.symm hAE)));have HC13:=lH (HC13'.o.mod hM13 (zAf (Ne.symm hCE)))
 have HM13:=lH (HM13'.o.past hM13 (fun g hg=>by rw [List.mem_singleton.1 hg,HAW.o];omega));clear hE13 hM13 HE13' HA13' HC13' HM13';have hr14:=zAr 1099511627776 s13;have hv14:=zCa 1099511627776 s13;have HCA:=lH (zBk C s13.1 s13.2 1099511627776 v13 HC13.o (by omega) (by omega));rw [show ((s13.1,s13.2):St)=s13 from rfl] at HCA;obtain ⟨p14,hp14⟩:∃p,rdN 1099511627776 s13=p:=⟨_,rfl⟩;rw [hp14] at HCA hr14 hv14;obtain ⟨kn,s14⟩:=p14;have HP14:=lH hp14;have hl14:s14.1.length≤1000000:=Nat.le_trans hr14.1 (by omega)
 have hz14:s13.2=true→(kn,s14)=((0:Int),(s13.1,true)):=hr14.2.2.1;have HZ14:=lH hz14;clear hp14 hr14 hz14;simp only at hv14
 go_wp2_with (fail)
 refine HCA.o.mono ?_;rintro e w14 ⟨rfl,hc14,hm14⟩;have HC14':=lH hc14;have HA14':=lH (CBox.mod HA13.o hm14 (zAf hCA));have HE14':=lH (CBox.mod HE13.o hm14 (zAf hCE));have HM14':=lH (HM13.o.trans hm14);clear HCA hc14 hm14 HC13 HA13 HE13 HM13;have hkm:kn.tmod 2=kn % 2:=Int.tmod_eq_emod_of_nonneg hv14.1;obtain ⟨kq,hkq⟩:∃q,kn.tdiv 2=q:=⟨_,rfl⟩;have hqe:kq=kn / 2:=by rw [←hkq];exact Int.tdiv_eq_ediv_of_nonneg hv14.1
 have hq0:0≤kq:=by omega
 have hq1:kq≤1099511627776:=by omega
 have HUT:Hid (untwice kn=if kn % 2=1 then -kq else kq):=by rw [hqe];rfl
 obtain ⟨un,hun⟩:∃un,untwice kn=un:=⟨_,rfl⟩;rw [hun] at HUT;have HUN:=lH hun;have HUB:Hid (-1099511627776≤un∧un≤1099511627776):=by show _∧_;rw [HUT.o];split<;>omega
 have x3:=HE14'.o.cell (i:=3) (v:=.int .i64 0) rfl;have xf3:=HE14'.o.frozen 3;have xl:=HE14'.o.lt;clear hun hqe;go_upto_if 30 with (fail)
 clear x3 xf3 xl;have hE14:CBox (w14.setCell ⟨E,3,none⟩ (.int .i64 kq)) E 60 #[.int .i64 ka,.string tb,.string tc,.int .i64 kq,.int .i64 0,.slice none 0 0]:=HE14'.o.set 3 _;have hM14:Mod [E] w14 (w14.setCell ⟨E,3,none⟩ (.int .i64 kq)):=(Mod.refl [E] w14).setCell (p:=⟨E,3,none⟩) (List.mem_singleton.2 rfl) _;generalize World.setCell _ ⟨E,3,none⟩ _=v14 at *;have HE14:=lH hE14;have HM14:=lH hM14;clear hE14 hM14 HE14';have x3:=HE14.o.cell (i:=3) (v:=.int .i64 kq) rfl;have xf3:=HE14.o.frozen 3;have xl:=HE14.o.lt
 go_cut [] from 28 to 35 (fun wx=>Hid (CBox wx E 60 #[.int .i64 ka,.string tb,.string tc,.int .i64 un,.int .i64 0,.slice none 0 0]∧Mod [E] w14 wx))
 case first=>
  by_cases hm:kn % 2=1
  ·have q1:(kn % 2==1)=true:=by simp [hm]
   have HN:Hid (un=-kq):=by show _=_;rw [HUT.o,if_pos hm]
   clear hm HUT;go_wp2;go_meet
   case rel=>exact ⟨by rw [HN.o];exact HE14.o.set 3 _,HM14.o.setCell (p:=⟨E,3,none⟩) (List.mem_singleton.2 rfl) _⟩
  ·have q1:(kn % 2==1)=false:=by simp [hm]
   have HN:Hid (un=kq):=by show _=_;rw [HUT.o,if_neg hm]
   clear hm HUT;go_wp2;go_meet
   case rel=>exact ⟨by rw [HN.o];exact HE14.o,HM14.o⟩
 case rest=>
 obtain ⟨hE15,hM15⟩:=hcut.out;generalize wc=v15 at *;have HEq:=lH hE15;have HAq:=lH (CBox.mod HA14'.o hM15 (zAf (Ne.symm hAE)));have HCq:=lH (HC14'.o.mod hM15 (zAf (Ne.symm hCE)));have HMq:=lH (HM14'.o.past hM15 (fun g hg=>by rw [List.mem_singleton.1 hg,HAW.o];omega));clear hcut hE15 hM15 HE14 HM14 HA14' HC14' HM14' x3 xf3 xl HUT hkm hkq hq0 hq1;have hr15:=zAr 1099511627776 s14;have hv15:=zCa 1099511627776 s14;have HCA:=lH (zBk C s14.1 s14.2 1099511627776 v15 HCq.o (by omega) (by omega))
 rw [show ((s14.1,s14.2):St)=s14 from rfl] at HCA;obtain ⟨p15,hp15⟩:∃p,rdN 1099511627776 s14=p:=⟨_,rfl⟩;rw [hp15] at HCA hr15 hv15;obtain ⟨kg,s15⟩:=p15;have HP15:=lH hp15;have hl15:s15.1.length≤1000000:=Nat.le_trans hr15.1 (by omega);have hz15:s14.2=true→(kg,s15)=((0:Int),(s14.1,true)):=hr15.2.2.1;have HZ15:=lH hz15;clear hp15 hr15 hz15;simp only at hv15
 go_wp2_with (fail)
 refine HCA.o.mono ?_;rintro e w15 ⟨rfl,hc15,hm15⟩;have HC15':=lH hc15;have HA15':=lH (CBox.mod HAq.o hm15 (zAf hCA));have HE15':=lH (CBox.mod HEq.o hm15 (zAf hCE));have HM15':=lH (HMq.o.trans hm15);clear HCA hc15 hm15 HCq HAq HEq HMq;have x4:=HE15'.o.cell (i:=4) (v:=.int .i64 0) rfl;have xf4:=HE15'.o.frozen 4;have xl:=HE15'.o.lt;go_upto_region 12 with (fail)
 clear x4 xf4 xl;have hE15:CBox (w15.setCell ⟨E,4,none⟩ (.int .i64 kg)) E 60 #[.int .i64 ka,.string tb,.string tc,.int .i64 un,.int .i64 kg,.slice none 0 0]:=HE15'.o.set 4 _;have hM15:Mod [E] w15 (w15.setCell ⟨E,4,none⟩ (.int .i64 kg)):=(Mod.refl [E] w15).setCell (p:=⟨E,4,none⟩) (List.mem_singleton.2 rfl) _;generalize World.setCell _ ⟨E,4,none⟩ _=v15 at *;have HE15:=lH hE15;have HA15:=lH (CBox.mod HA15'.o hM15 (zAf (Ne.symm hAE)));have HC15:=lH (HC15'.o.mod hM15 (zAf (Ne.symm hCE)))
 have HM15:=lH (HM15'.o.past hM15 (fun g hg=>by rw [List.mem_singleton.1 hg,HAW.o];omega));clear hE15 hM15 HE15' HA15' HC15' HM15';have hr16:=zAr 3 s15;have hv16:=zCa 3 s15;have HCA:=lH (zBk C s15.1 s15.2 3 v15 HC15.o (by omega) (by omega));rw [show ((s15.1,s15.2):St)=s15 from rfl] at HCA;obtain ⟨p16,hp16⟩:∃p,rdN 3 s15=p:=⟨_,rfl⟩;rw [hp16] at HCA hr16 hv16;obtain ⟨kkI,s16⟩:=p16;have HP16:=lH hp16;have hl16:s16.1.length≤1000000:=Nat.le_trans hr16.1 (by omega)
 have hz16:s15.2=true→(kkI,s16)=((0:Int),(s15.1,true)):=hr16.2.2.1;have HZ16:=lH hz16;clear hp16 hr16 hz16;simp only at hv16
 go_wp2_with (fail)
 refine HCA.o.mono ?_;rintro e w16 ⟨rfl,hc16,hm16⟩;have HC16':=lH hc16;have HA16':=lH (CBox.mod HA15.o hm16 (zAf hCA));have HE16':=lH (CBox.mod HE15.o hm16 (zAf hCE));have HM16':=lH (HM15.o.trans hm16);clear HCA hc16 hm16 HC15 HA15 HE15 HM15;obtain ⟨kk,rfl⟩:∃n:Nat,kkI=n:=⟨kkI.toNat,(Int.toNat_of_nonneg hv16.1).symm⟩;have hk3:kk≤3:=by omega
 have HK0:Hid (d=0→kk=0):=fun h=>by
  have b0:=HD0.o h;have e1:=HZ11.o b0;have b1:s11.2=true:=by rw [(Prod.mk.inj e1).2]
  have b2:s12.2=true:=by rw [(Prod.mk.inj (HZ12.o b1)).2]
  have b3:s13.2=true:=by rw [(Prod.mk.inj (HZ13.o b2)).2]
  have b4:s14.2=true:=by rw [(Prod.mk.inj (HZ14.o b3)).2]
  have b5:s15.2=true:=by rw [(Prod.mk.inj (HZ15.o b4)).2]
  have:=(Prod.mk.inj (HZ16.o b5)).1;omega
 have HPP:Hid (P=(.mk ka tb tc un kg (rdL F kk s16).1,(rdL F kk s16).2)):=by
  show _=_
  rw [HRD.o];unfold bodyX;simp only [HP11.o,HP12.o,HP13.o,HP14.o,HP15.o,HP16.o,HUN.o,Int.toNat_natCast]
 clear HRD HP11 HP12 HP13 HP14 HP15 HP16 HUN HUB HD0 HZ11 HZ12 HZ13 HZ14 HZ15 HZ16 hl0 hl11 hl12 hl13 hl14 hl15 hv11 hv14 hv15 hv16;go_wp2
 go_loopw [8] (fun iv wr=>∃(i:Nat) (vv:Value) (L:List Ex) (sr:St),i≤kk∧iv=.int .i64 i∧L.length=i∧sr.1.length≤1000000∧Hid (rdL F kk s16=(L++(rdL F (kk - i) sr).1,(rdL F (kk - i) sr).2))∧Hid (OwnT wr Y (E+1) 60 6 exprT vv L)∧Hid (CBox wr E 60 #[.int .i64 ka,.string tb,.string tc,.int .i64 un,.int .i64 kg,vv])∧Hid (RdB wr C sr)∧Hid (Mod [C] w wr)∧Hid (CBox wr A 60 xZ)) (fun iv _=>kk - (intOf iv).toNat)
 case atStart=>exact ⟨0,.slice none 0 0,[],s16,Nat.zero_le _,rfl,rfl,hl16,rfl,OwnT.nil _ _ _ _ _ _,HE16',HC16',HM16',HA16'⟩
 case round=>
  clear HE16' HC16' HM16' HA16' hl16;obtain ⟨i,vv,L,sr,hik,rfl,hLi,hsr,HRR,HO,HE,HC,HM,HA⟩:=hrel;have c1:=HC.o.cell (i:=1) (v:=.bool sr.2) rfl;have cl:=HC.o.lt
  by_cases hgo:i<kk∧sr.2=false
  ·obtain ⟨hi,hsb⟩:=hgo
   rw [hsb] at c1;have hd1:decide ((i:Int)<(kk:Int))=true:=decide_eq_true (by omega);have hd2:decide (i<kk)=true:=decide_eq_true hi;obtain ⟨f,hf⟩:∃f,d=f+1:=⟨d - 1,by have:d≠0:=fun h=>(by have:=HK0.o h;omega);omega⟩;obtain ⟨hrx,hFe⟩:=HIH.o f hf;have hfd:(d:Int) - 1=(f:Int):=by omega
   have hwf:IntKind.i64.wrap (f:Int)=(f:Int):=IntWalk.i64_in _ (by omega);clear hf;go_upto_region 16 with (fail)
   have e5:=HE.o.cell (i:=5) (v:=vv) rfl;have el:=HE.o.lt;have hyt:=HYA.o
   have hYs:∀k∈vv.ownBlock.toList++Y,k<wr.drew.heap.size:=by
    intro k hk
    rcases List.mem_append.1 hk with hk|hk
    ·exact HO.o.lt (by simpa using hk)
    ·have:=hyt.2.2.2.2 k hk
     show k<wr.heap.size
     omega
   have hCw':RdB wr.drew C sr:=HC.o.below (Mod.refl [] wr).drew.below;have HCA:=lH (hrx C sr (vv.ownBlock.toList++Y) wr.drew hCw' hsr hYs (List.mem_append_right _ hyt.2.2.1));rw [←hFe] at HCA;have HST:Hid (rdL F (kk - i) sr=((F sr).1::(rdL F (kk - (i+1)) (F sr).2).1,(rdL F (kk - (i+1)) (F sr).2).2)):=zOw hi hsb;have HLN:Hid ((F sr).2.1.length≤1000000):=by show _≤_;rw [hFe];exact Nat.le_trans (zJj f sr) hsr
   obtain ⟨p,hp⟩:∃p,F sr=p:=⟨_,rfl⟩;rw [hp] at HCA HST HLN;obtain ⟨y,sn⟩:=p;unfold exV at HCA;simp only at HCA
   have HHW:Hid (wr.heap.size=wr.drew.heap.size):=rfl;have HM1:=lH (HM.o.drew);have HE1:=lH (CBox.below HE.o (Mod.refl [] wr).drew.below);have HA1:=lH (CBox.below HA.o (Mod.refl [] wr).drew.below);have HO1:=lH (HO.o.below (Mod.refl [] wr).drew.below);have hS0:wr.drew.cell? ⟨E,5,none⟩=some vv∧E<wr.drew.heap.size:=⟨HE1.o.cell (i:=5) (v:=vv) rfl,HE1.o.lt⟩;clear hrx hFe hyt hYs hCw' hp c1 cl e5 el HE HA HO HM HC
   refine wp_region_noPanic (zBe (fun W:World=>W.cell? ⟨E,5,none⟩=some vv∧E<W.heap.size) 7 [(true,0),(true,1),(true,2),(true,3),(true,4),(false,5),(false,6)] zBm (by kernel_rfl) (fun _ _ _ _ _ h=>h) hS0 ?_)
   iterate 5 (refine zAy (v:=?_) rfl (by rfl) ?_ ?_;rotate_left;(focus (intro wq hSw;(try dsimp only at hSw);go_simp;(try rw [if_neg (by first|omega|(simp;omega))]);(try with_reducible rfl)));(try simp only [gA,gB,gC,Act.put,gD,gE,gF]))
   generalize wr.drew=v0 at *
   (refine zBo rfl (by rfl) (fun K hK=>?_);go_simp)
   refine HCA.o.mono ?_;rintro e v1 ⟨ya,yc,rfl,hcy,hmy,hyi⟩
   (try go_simp)
   have HE2:=lH (CBox.mod HE1.o hmy (zAf hCE));refine hK.out _ _ ⟨HE2.o.cell (i:=5) (v:=vv) rfl,HE2.o.lt⟩ ?_;clear hK K;(try simp only [gA,gB,gC,Act.put,gD,gE,gF]);have HM2:=lH (HM1.o.trans hmy);have HA2:=lH (CBox.mod HA1.o hmy (zAf hCA));have HC2:=lH hcy;have HY2:=lH hyi;have HO2:Hid (OwnT v1 Y (E+1) 60 6 exprT vv L):=HO1.o.mod (hmy.mono (fun k hk=>by rw [List.mem_singleton.1 hk];exact HYA.o.2.2.1)) (fun k hk hX=>by have h1:=HO1.o.ge hk;have:=HYA.o.2.2.2.2 k hX;omega)
   clear HCA hcy hmy hyi HE1 HM1 HA1 HO1 HHW hS0;have hal:=zAa v1 (.cells (xA y ya yc) 60);have HYB:=lH (CBox.new v1 60 (xA y ya yc));have HO3:=lH (HO2.o.below hal);have HE3:=lH (CBox.below HE2.o hal);have HA3:=lH (CBox.below HA2.o hal);have HC3:=lH (HC2.o.below hal);have HM3:=lH (HM2.o.trans ((Mod.of hal).mono (X:=[]) (fun k hk=>by cases hk)));have HY3:=lH (HY2.o.below hal);clear hal
   (refine zBo rfl (by rfl) (fun K hK=>?_);go_simp)
   refine hK.out _ _ ⟨HE3.o.cell (i:=5) (v:=vv) rfl,HE3.o.lt⟩ ?_;clear hK K HE2 HA2 HM2 HC2 HY2 HO2;(try simp only [gA,gB,gC,Act.put,gD,gE,gF]);generalize World.alloc v1 _=v2 at *;generalize v1.heap.size=N at *;refine zBy ?_;simp only [List.drop_succ_cons,List.drop_zero]
   refine zNh rfl _ _ rfl rfl HO3.o rfl (ya:=ya) (yc:=yc) (by exact HYB.o) HY3.o (by omega) (HE3.o.lt) ?_;intro v' v3 ho4 hm4;obtain ⟨a4,c4,hv4,-,-⟩:=ho4.val;rw [List.length_append,hLi] at hv4;have hv5:v'=.slice a4 (i+1) c4:=hv4;clear hv4;subst hv5;have hge:∀k,k∈vv.ownBlock.toList→E+1≤k:=fun k hk=>HO3.o.ge (by simpa using hk);have HE4:=lH (CBox.mod HE3.o hm4 (fun h=>by have:=hge _ h;omega));have HA4:=lH (CBox.mod HA3.o hm4 (fun h=>by have:=hge _ h;omega))
   have HC4:=lH (HC3.o.mod hm4 (fun h=>by have:=hge _ h;omega));have HM4:=lH (HM3.o.past hm4 (fun g hg=>by have:=hge _ hg;rw [HAW.o];omega));have HO4:=lH ho4;clear hm4 ho4 hge HO3 HYB HY3 HE3 HA3 HC3 HM3;have e5:=HE4.o.cell (i:=5) (v:=vv) rfl;have f5:=HE4.o.frozen 5;have el:=HE4.o.lt;go_wp2;refine NoPanic.normal ?_;clear e5 f5 el;have HE5:Hid (CBox (v3.setCell ⟨E,5,none⟩ (.slice a4 (i+1) c4)) E 60 #[.int .i64 ka,.string tb,.string tc,.int .i64 un,.int .i64 kg,.slice a4 (i+1) c4]):=HE4.o.set 5 _
   have hm5:Mod [E] v3 (v3.setCell ⟨E,5,none⟩ (.slice a4 (i+1) c4)):=(Mod.refl [E] v3).setCell (p:=⟨E,5,none⟩) (List.mem_singleton.2 rfl) _;generalize World.setCell _ ⟨E,5,none⟩ _=v4 at *;have HA5:=lH (CBox.mod HA4.o hm5 (zAf (Ne.symm hAE)));have HC5:=lH (HC4.o.mod hm5 (zAf (Ne.symm hCE)));have HM5:=lH (HM4.o.past hm5 (fun g hg=>by rw [List.mem_singleton.1 hg,HAW.o];omega))
   have HO5:=lH (HO4.o.mod (hm5.mono (fun k hk=>by rw [List.mem_singleton.1 hk];exact HYA.o.2.1)) (fun k hk hX=>by have h1:=HO4.o.ge hk;have:=HYA.o.2.2.2.2 k hX;omega))
   have HR5:Hid (rdL F kk s16=((L++[y])++(rdL F (kk - (i+1)) sn).1,(rdL F (kk - (i+1)) sn).2)):=by
    show _=_
    rw [HRR.o,HST.o,List.append_assoc];rfl
   have hlen:(L++[y]).length=i+1:=by rw [List.length_append,hLi];rfl
   have hsn:sn.1.length≤1000000:=HLN.o;clear hm5 HE4 HA4 HC4 HM4 HO4 HRR HST HLN hd1 hd2 hfd hwf;go_wp2;go_roundw
   case rel=>exact ⟨i+1,.slice a4 (i+1) c4,L++[y],sn,by omega,by go_num,hlen,hsn,HR5,HO5,HE5,HC5,HM5,HA5⟩
   case measure=>simp [intOf];omega
  ·have HL0:Hid (rdL F kk s16=(L,sr)):=by
    show _=_
    rw [HRR.o,zOx (by rcases Nat.lt_or_ge i kk with h|h;exact .inr (by cases hb:sr.2 with|true=>rfl|false=>exact absurd ⟨h,hb⟩ hgo);exact .inl (by omega)),List.append_nil]
   obtain ⟨va,vc,rfl,hvc1,hvc2⟩:=HO.o.val;have HVC:Hid (L.length≤vc∧vc≤9223372036854775807):=⟨hvc1,hvc2⟩;clear hvc1 hvc2 HRR;have HP2:Hid (P=(.mk ka tb tc un kg L,sr)):=by show _=_;rw [HPP.o,HL0.o]
   have HQ:Hid (if i<kk then sr.2=true else True):=by
    show if _ then _ else _
    split
    ·cases hb:sr.2 with
     | true=>rfl
     | false=>exact absurd ⟨by assumption,hb⟩ hgo
    ·trivial
   have HFI:Hid (XIn wr Y (.mk ka tb tc un kg L) va vc):=⟨HO.o.reads (fun k hk hX=>by have h1:=HO.o.ge hk;have:=HYA.o.2.2.2.2 k hX;omega),HVC.o.1,HVC.o.2⟩;clear HPP HL0 HO HVC hgo hLi;obtain ⟨e0,e1,e2,e3,e4,e5,el⟩:=zCv HE.o;have al:=HA.o.lt;obtain ⟨a0,a1,a2,a3,a4,a5,-⟩:=zCv HA.o;obtain ⟨b0,b1,b2,b3,b4,b5⟩:=zNl HA.o
   by_cases hi:i<kk
   ·have hd1:decide ((i:Int)<(kk:Int))=true:=decide_eq_true (by omega)
    have hd2:decide (i<kk)=true:=decide_eq_true hi;have hq:=HQ.o;rw [if_pos hi] at hq;rw [hq] at c1;go_wp2;obtain ⟨hp1,hp2⟩:=CBox.sixes HA.o (.int .i64 ka) (.string tb) (.string tc) (.int .i64 un) (.int .i64 kg) (.slice va L.length vc);obtain ⟨r0,r1,r2,r3,r4,r5,-⟩:=zCv hp1;refine bodyPost_ret (by simp [results,Tryz.results116,go_sem,r0,r1,r2,r3,r4,r5];try rfl) rfl ?_;refine ⟨va,vc,by rw [HP2.o];rfl,?_,HM.o.past hp2 (fun g hg=>by rw [List.mem_singleton.1 hg,HAW.o];exact Nat.le_refl _),?_⟩
    ·rw [HP2.o];exact HC.o.mod hp2 (zAf (Ne.symm hCA))
    ·rw [HP2.o];exact (HFI.o.mod (hp2.mono (fun k hk=>by rw [List.mem_singleton.1 hk];exact HYA.o.1))).fewer (fun k hk=>HYA.o.2.2.2.1 k hk)
   ·have hd1:decide ((i:Int)<(kk:Int))=false:=decide_eq_false (by omega)
    have hd2:decide (i<kk)=false:=decide_eq_false hi;go_wp2;obtain ⟨hp1,hp2⟩:=CBox.sixes HA.o (.int .i64 ka) (.string tb) (.string tc) (.int .i64 un) (.int .i64 kg) (.slice va L.length vc);obtain ⟨r0,r1,r2,r3,r4,r5,-⟩:=zCv hp1;refine bodyPost_ret (by simp [results,Tryz.results116,go_sem,r0,r1,r2,r3,r4,r5];try rfl) rfl ?_;refine ⟨va,vc,by rw [HP2.o];rfl,?_,HM.o.past hp2 (fun g hg=>by rw [List.mem_singleton.1 hg,HAW.o];exact Nat.le_refl _),?_⟩
    ·rw [HP2.o];exact HC.o.mod hp2 (zAf (Ne.symm hCA))
    ·rw [HP2.o];exact (HFI.o.mod (hp2.mono (fun k hk=>by rw [List.mem_singleton.1 hk];exact HYA.o.1))).fewer (fun k hk=>HYA.o.2.2.2.1 k hk)
theorem zNi:∀d,d≤40→RX d
 | 0,h=>zLd 0 h (fun f e=>by omega)
 | d+1,h=>zLd (d+1) h (fun f e=>by rw [show f=d by omega];exact zNi d (by omega))
theorem Mod.then2 {C E:Nat} {a b c:World} (h:Mod [C] a b) (k:Mod [C,E] b c) (hE:a.heap.size≤E):Mod [C] a c:=
 ⟨k.os.trans h.os,k.tape.trans h.tape,k.output.trans h.output,Nat.le_trans h.size k.size,fun j hj hx=>(k.block j (Nat.lt_of_lt_of_le hj h.size) (fun hY=>by
  rcases List.mem_cons.1 hY with rfl|hY
  ·exact hx (List.mem_singleton.2 rfl)
  ·have:=List.mem_singleton.1 hY;omega)).trans (h.block j hj hx)⟩
theorem yCx:(Tryz.prog.info? 9).map (fun i=>(i.zero.map (fun z=>z.cells.size),i.size,i.bytes))=some (some 1,1,16):=by kernel_rfl
theorem zLe {ops:Array Oper} {rest:List Oper} {o:Oper} {a:Act} {Q:Exit→Act→World→Prop} (hgd:o.guard=none) (s x:Operand)
  (ho:o.op=.call { callee:=.builtin .append,args:=#[s,x],argTypes:=#[50,50] }) {w:World} {X:List Nat} {base:Nat} {v:Value} {L:List ByteArray} (hs:a.eval s=v) (hown:OwnT w X base 9 1 (fun s=>[strT s]) v L)
  {B:Nat} {y:ByteArray} (hx:a.eval x=.slice (some ⟨B,0,none⟩) 1 1) (hbox:CBox w B 9 #[.string y]) (hL:L.length≤4000000) (hbase:base≤w.heap.size)
  (K:∀v' w',OwnT w' X base 9 1 (fun s=>[strT s]) v' (L++[y])→Mod v.ownBlock.toList w w'→wpList Tryz.prog ops Q rest (a.put o.dst v') w'):wpList Tryz.prog ops Q (o::rest) a w:=by
 obtain ⟨i0,z,hi,hz0,hzs,hz1,hz2⟩:=zBh yCx;obtain ⟨xs,hrowo,hxr⟩:=hown
 have hrow:IsRow w 1 (.slice (some ⟨B,0,none⟩) 1 1) 1 [.string y]:=⟨rfl,some ⟨B,0,none⟩,1,rfl,Nat.le_refl _,by unfold maxLen;omega,fun _=>⟨B,0,rfl,hbox.lt,fun j q hj=>by
  rw [Nat.zero_add];exact hbox.cell (i:=j) (v:=q) (by rw [←Array.getElem?_toList];exact hj)⟩⟩
 refine zAd hgd s x 50 ho base 9 i0 z 1 16 Tryz.underlying50 hi hz0 hz1 hz2 hzs (by decide) v L.length xs hs hrowo (.slice (some ⟨B,0,none⟩) 1 1) 1 [.string y] hx hrow (by intro u hu;rw [List.mem_singleton.1 hu];rfl) (by unfold maxLen;omega) (by omega) hbase ?_;intro v' w' ho' hg' hb';exact K v' w' (OwnT.grown (f:=fun s=>[strT s]) (a:=y) hrowo hxr (ReadsL.cons (Reads.leaf' _ _ _) (ReadsL.nil _ _)) ho' hg' hb') (zAp hg')
theorem yCy (d:ODecl) (an:Option Addr) (cn:Nat) (sa:Option Addr) (cs:Nat):∀u∈declL d an cn sa cs,u.oneCell'=true:=by
 intro u hu;unfold declL at hu;simp only [List.mem_cons,List.not_mem_nil,or_false] at hu
 rcases hu with rfl|rfl|rfl|rfl|rfl|rfl|rfl|rfl|rfl|rfl|rfl<;>rfl
theorem zLf {ops:Array Oper} {rest:List Oper} {o:Oper} {a:Act} {Q:Exit→Act→World→Prop} (hgd:o.guard=none) (s x:Operand)
  (ho:o.op=.call { callee:=.builtin .append,args:=#[s,x],argTypes:=#[37,37] }) {w:World} {X:List Nat} {base:Nat} {v:Value} {L:List ODecl} (hs:a.eval s=v) (hown:OwnT w X base 62 11 declT v L)
  {B:Nat} {d:ODecl} {an:Option Addr} {cn:Nat} {sa:Option Addr} {cs:Nat} (hx:a.eval x=.slice (some ⟨B,0,none⟩) 1 1) (hbox:CBox w B 62 (declL d an cn sa cs).toArray) (hd1:Reads w (v.ownBlock.toList++X) (strsT d.names) (.slice an d.names.length cn)) (hd2:Reads w (v.ownBlock.toList++X) (subsT d.body.subs) (.slice sa d.body.subs.length cs)) (hL:L.length≤1000000) (hbase:base≤w.heap.size)
  (K:∀v' w',OwnT w' X base 62 11 declT v' (L++[d])→Mod v.ownBlock.toList w w'→wpList Tryz.prog ops Q rest (a.put o.dst v') w'):wpList Tryz.prog ops Q (o::rest) a w:=by
 obtain ⟨i0,z,hi,hz0,hzs,hz1,hz2⟩:=zBh zHc;obtain ⟨xs,hrowo,hxr⟩:=hown
 have hrow:IsRow w 11 (.slice (some ⟨B,0,none⟩) 1 1) 1 (declL d an cn sa cs):=⟨rfl,some ⟨B,0,none⟩,1,rfl,Nat.le_refl _,by unfold maxLen;omega,fun _=>⟨B,0,rfl,hbox.lt,fun j q hj=>by
  rw [Nat.zero_add];exact hbox.cell (i:=j) (v:=q) (by rw [←Array.getElem?_toList];exact hj)⟩⟩
 refine zAd hgd s x 37 ho base 62 i0 z 11 136 Tryz.underlying37 hi hz0 hz1 hz2 hzs (by decide) v L.length xs hs hrowo (.slice (some ⟨B,0,none⟩) 1 1) 1 (declL d an cn sa cs) hx hrow (yCy d an cn sa cs) (by unfold maxLen;omega) (by omega) hbase ?_;intro v' w' ho' hg' hb';exact K v' w' (OwnT.grown (f:=declT) (a:=d) hrowo hxr (zBr hd1 hd2) ho' hg' hb') (zAp hg')
theorem zLg (C:Nat) (s:St) (X:List Nat) (w:World) (hC:RdB w C s) (hs:s.1.length≤1000000) (hX:∀k∈X,k<w.heap.size) (hCX:C∈X) :
  Calls Tryz.prog 63 #[.pointer (some ⟨C,0,none⟩)] w fun e w'=>∃va vc,e=.returned (.slice va (rdDs s).1.length vc)∧RdB w' C (rdDs s).2∧Mod [C] w w'∧Reads w' X (declsT (rdDs s).1) (.slice va (rdDs s).1.length vc)∧(rdDs s).1.length≤vc∧vc≤9223372036854775807:=by
 have HPP:Hid (rdDs s=rdL rdD (rdN 1 s).1.toNat (rdN 1 s).2):=rfl;have HXW:=lH hX;have HCX:=lH hCX;have hr:=(zAr 1 s).1;have hv:=zCa 1 s;have HCA:=lH (zBk C s.1 s.2 1 w hC (by omega) (by omega));rw [show ((s.1,s.2):St)=s from rfl] at HCA;generalize rdDs s=P at *;generalize rdN 1 s=p at *;obtain ⟨kkI,s1⟩:=p;simp only at hr hv HPP HCA
 obtain ⟨kk,rfl⟩:∃n:Nat,kkI=n:=⟨kkI.toNat,(Int.toNat_of_nonneg hv.1).symm⟩;rw [Int.toNat_natCast] at HPP;have hk1:kk≤1:=by omega
 have hl1:s1.1.length≤1000000:=by omega
 clear hX hCX hv hr hs hC
 go_enter Tryz.func63,Tryz.ntmps63
 go_wp2_with (fail)
 refine HCA.o.mono ?_;rintro e w1 ⟨rfl,hc1,hm1⟩;have HC1:=lH hc1;have HM1:=lH hm1;clear HCA hc1 hm1;go_wp2
 go_loopw [5,3] (fun iv dv wr=>∃(i:Nat) (L:List ODecl) (sr:St),i≤kk∧iv=.int .i64 i∧L.length=i∧sr.1.length≤1000000∧Hid (rdL rdD kk s1=(L++(rdL rdD (kk - i) sr).1,(rdL rdD (kk - i) sr).2))∧Hid (OwnT wr X w.heap.size 62 11 declT dv L)∧Hid (RdB wr C sr)∧Hid (Mod [C] w wr)) (fun iv _ _=>kk - (intOf iv).toNat)
 case atStart=>exact ⟨0,[],s1,Nat.zero_le _,rfl,rfl,hl1,rfl,OwnT.nil _ _ _ _ _ _,HC1,HM1⟩
 case round=>
  clear HC1 HM1 hl1;obtain ⟨i,L,sr,hik,rfl,hLi,hsr,HRR,HO,HC,HM⟩:=hrel;have c1:=HC.o.cell (i:=1) (v:=.bool sr.2) rfl;have cl:=HC.o.lt
  by_cases hgo:i<kk∧sr.2=false
  ·obtain ⟨hi,hsb⟩:=hgo
   rw [hsb] at c1;have hd1:decide ((i:Int)<(kk:Int))=true:=decide_eq_true (by omega);have hd2:decide (i<kk)=true:=decide_eq_true hi;have HST:Hid (rdL rdD (kk - i) sr=((rdD sr).1::(rdL rdD (kk - (i+1)) (rdD sr).2).1,(rdL rdD (kk - (i+1)) (rdD sr).2).2)):=zOw hi hsb;have HLN:Hid ((rdD sr).2.1.length≤1000000):=Nat.le_trans (zHp sr hsr).2 hsr
   have HRD:Hid (rdD sr=(⟨(rdN 1099511627776 sr).1,(rdN 1099511627776 (rdN 1099511627776 sr).2).1,(rdN 1 (rdN 1099511627776 (rdN 1099511627776 sr).2).2).1==1,(rdL rdT (rdN 3 (rdN 1 (rdN 1 (rdN 1099511627776 (rdN 1099511627776 sr).2).2).2).2).1.toNat (rdN 3 (rdN 1 (rdN 1 (rdN 1099511627776 (rdN 1099511627776 sr).2).2).2).2).2).1,(rdN 1 (rdN 1 (rdN 1099511627776 (rdN 1099511627776 sr).2).2).2).1==1,(rdX 40 (rdL rdT (rdN 3 (rdN 1 (rdN 1 (rdN 1099511627776 (rdN 1099511627776 sr).2).2).2).2).1.toNat (rdN 3 (rdN 1 (rdN 1 (rdN 1099511627776 (rdN 1099511627776 sr).2).2).2).2).2).2).1⟩,(rdX 40 (rdL rdT (rdN 3 (rdN 1 (rdN 1 (rdN 1099511627776 (rdN 1099511627776 sr).2).2).2).2).1.toNat (rdN 3 (rdN 1 (rdN 1 (rdN 1099511627776 (rdN 1099511627776 sr).2).2).2).2).2).2).2)):=rfl
   obtain ⟨pd,hpd⟩:∃p,rdD sr=p:=⟨_,rfl⟩;rw [hpd] at HST HLN HRD;obtain ⟨dd,sn⟩:=pd;simp only at HST HLN
   clear hpd;have hA0:=zAa wr (.cells dZ 62);have hE0:=CBox.new wr 62 dZ;have hwE:w.heap.size≤wr.heap.size:=HM.o.size;go_upto_region 7 with (fail)
   obtain ⟨E,hEe⟩:∃E,wr.heap.size=E:=⟨_,rfl⟩;rw [hEe] at hE0 hwE cl
   (try rw [hEe])
   have HWE:Hid (w.heap.size≤E):=hwE;have hCE:E≠C:=by omega
   have HO0:Hid (OwnT (wr.alloc (.cells dZ 62)) (E::X) w.heap.size 62 11 declT u3 L):=(HO.o.more (by omega)).below hA0;have HM0:=lH (HM.o.trans ((Mod.of hA0).mono (X:=[]) (fun k hk=>by cases hk)));have HDB:Hid (∀b,u3.ownBlock=some b→w.heap.size≤b∧b<E):=fun b hb=>⟨HO.o.ge hb,by have:=HO.o.lt hb;omega⟩;have HE0:=lH hE0;have HC0:=lH (HC.o.below hA0);have HZ0:Hid ((wr.alloc (.cells dZ 62)).heap.size=E+1):=by show _=_;rw [World.size_alloc,hEe]
   clear hA0 hE0 HO HC HM c1 cl hEe hsb hwE;generalize World.alloc wr _=w5 at *;have HN0:Hid (Mod [C,E] w5 w5):=Mod.refl _ _;have hr11:=(zAr 1099511627776 sr).1;have hv11:=zCa 1099511627776 sr;have HCA:=lH (zBk C sr.1 sr.2 1099511627776 w5 HC0.o (by omega) (by omega));rw [show ((sr.1,sr.2):St)=sr from rfl] at HCA;obtain ⟨p11,hp11⟩:∃p,rdN 1099511627776 sr=p:=⟨_,rfl⟩;rw [hp11] at HCA hr11 hv11;obtain ⟨ka,s11⟩:=p11;have HP11:=lH hp11;have hl11:s11.1.length≤1000000:=Nat.le_trans hr11 (by omega);clear hp11 hr11
   simp only at hv11
   go_wp2_with (fail)
   refine HCA.o.mono ?_;rintro e w11 ⟨rfl,hc11,hm11⟩;have HC11':=lH hc11;have HE11':=lH (CBox.mod HE0.o hm11 (zAf hCE));have HN11':=lH (HN0.o.trans (hm11.mono (fun k hk=>by rw [List.mem_singleton.1 hk];simp)));clear HCA hc11 hm11 HC0 HE0 HN0;have x0:=HE11'.o.cell (i:=0) (v:=.int .i64 0) rfl;have xf0:=HE11'.o.frozen 0;have xl:=HE11'.o.lt;go_upto_region 8 with (fail)
   clear x0 xf0 xl;have hE11:CBox (w11.setCell ⟨E,0,none⟩ (.int .i64 ka)) E 62 #[.int .i64 ka,.int .i64 0,.bool false,.slice none 0 0,.bool false,.int .i64 0,.string ⟨#[]⟩,.string ⟨#[]⟩,.int .i64 0,.int .i64 0,.slice none 0 0]:=HE11'.o.set 0 _;have hM11:Mod [E] w11 (w11.setCell ⟨E,0,none⟩ (.int .i64 ka)):=(Mod.refl [E] w11).setCell (p:=⟨E,0,none⟩) (List.mem_singleton.2 rfl) _;generalize World.setCell _ ⟨E,0,none⟩ _=v11 at *;have HE11:=lH hE11;have HC11:=lH (HC11'.o.mod hM11 (zAf (Ne.symm hCE)))
   have HN11:=lH (HN11'.o.trans (hM11.mono (fun k hk=>by rw [List.mem_singleton.1 hk];simp)));clear hE11 hM11 HE11' HC11' HN11';have hr12:=(zAr 1099511627776 s11).1;have hv12:=zCa 1099511627776 s11;have HCA:=lH (zBk C s11.1 s11.2 1099511627776 v11 HC11.o (by omega) (by omega));rw [show ((s11.1,s11.2):St)=s11 from rfl] at HCA;obtain ⟨p12,hp12⟩:∃p,rdN 1099511627776 s11=p:=⟨_,rfl⟩;rw [hp12] at HCA hr12 hv12;obtain ⟨kb,s12⟩:=p12;have HP12:=lH hp12;have hl12:s12.1.length≤1000000:=Nat.le_trans hr12 (by omega)
   clear hp12 hr12;simp only at hv12
   go_wp2_with (fail)
   refine HCA.o.mono ?_;rintro e w12 ⟨rfl,hc12,hm12⟩;have HC12':=lH hc12;have HE12':=lH (CBox.mod HE11.o hm12 (zAf hCE));have HN12':=lH (HN11.o.trans (hm12.mono (fun k hk=>by rw [List.mem_singleton.1 hk];simp)));clear HCA hc12 hm12 HC11 HE11 HN11;have x1:=HE12'.o.cell (i:=1) (v:=.int .i64 0) rfl;have xf1:=HE12'.o.frozen 1;have xl:=HE12'.o.lt;go_upto_region 9 with (fail)
   clear x1 xf1 xl;have hE12:CBox (w12.setCell ⟨E,1,none⟩ (.int .i64 kb)) E 62 #[.int .i64 ka,.int .i64 kb,.bool false,.slice none 0 0,.bool false,.int .i64 0,.string ⟨#[]⟩,.string ⟨#[]⟩,.int .i64 0,.int .i64 0,.slice none 0 0]:=HE12'.o.set 1 _;have hM12:Mod [E] w12 (w12.setCell ⟨E,1,none⟩ (.int .i64 kb)):=(Mod.refl [E] w12).setCell (p:=⟨E,1,none⟩) (List.mem_singleton.2 rfl) _;generalize World.setCell _ ⟨E,1,none⟩ _=v12 at *;have HE12:=lH hE12;have HC12:=lH (HC12'.o.mod hM12 (zAf (Ne.symm hCE)))
   have HN12:=lH (HN12'.o.trans (hM12.mono (fun k hk=>by rw [List.mem_singleton.1 hk];simp)));clear hE12 hM12 HE12' HC12' HN12';have hr13:=(zAr 1 s12).1;have hv13:=zCa 1 s12;have HCA:=lH (zBk C s12.1 s12.2 1 v12 HC12.o (by omega) (by omega));rw [show ((s12.1,s12.2):St)=s12 from rfl] at HCA;obtain ⟨p13,hp13⟩:∃p,rdN 1 s12=p:=⟨_,rfl⟩;rw [hp13] at HCA hr13 hv13;obtain ⟨kc,s13⟩:=p13;have HP13:=lH hp13;have hl13:s13.1.length≤1000000:=Nat.le_trans hr13 (by omega);clear hp13 hr13;simp only at hv13
   go_wp2_with (fail)
   refine HCA.o.mono ?_;rintro e w13 ⟨rfl,hc13,hm13⟩;have HC13':=lH hc13;have HE13':=lH (CBox.mod HE12.o hm13 (zAf hCE));have HN13':=lH (HN12.o.trans (hm13.mono (fun k hk=>by rw [List.mem_singleton.1 hk];simp)));clear HCA hc13 hm13 HC12 HE12 HN12;have x2:=HE13'.o.cell (i:=2) (v:=.bool false) rfl;have xf2:=HE13'.o.frozen 2;have xl:=HE13'.o.lt;go_upto_region 10 with (fail)
   clear x2 xf2 xl;have hE13:CBox (w13.setCell ⟨E,2,none⟩ (.bool (kc==1))) E 62 #[.int .i64 ka,.int .i64 kb,.bool (kc==1),.slice none 0 0,.bool false,.int .i64 0,.string ⟨#[]⟩,.string ⟨#[]⟩,.int .i64 0,.int .i64 0,.slice none 0 0]:=HE13'.o.set 2 _;have hM13:Mod [E] w13 (w13.setCell ⟨E,2,none⟩ (.bool (kc==1))):=(Mod.refl [E] w13).setCell (p:=⟨E,2,none⟩) (List.mem_singleton.2 rfl) _;generalize World.setCell _ ⟨E,2,none⟩ _=v13 at *;have HE13:=lH hE13;have HC13:=lH (HC13'.o.mod hM13 (zAf (Ne.symm hCE)))
   have HN13:=lH (HN13'.o.trans (hM13.mono (fun k hk=>by rw [List.mem_singleton.1 hk];simp)));clear hE13 hM13 HE13' HC13' HN13';have hr14:=(zAr 1 s13).1;have hv14:=zCa 1 s13;have HCA:=lH (zBk C s13.1 s13.2 1 v13 HC13.o (by omega) (by omega));rw [show ((s13.1,s13.2):St)=s13 from rfl] at HCA;obtain ⟨p14,hp14⟩:∃p,rdN 1 s13=p:=⟨_,rfl⟩;rw [hp14] at HCA hr14 hv14;obtain ⟨ke,s14⟩:=p14;have HP14:=lH hp14;have hl14:s14.1.length≤1000000:=Nat.le_trans hr14 (by omega);clear hp14 hr14;simp only at hv14
   go_wp2_with (fail)
   refine HCA.o.mono ?_;rintro e w14 ⟨rfl,hc14,hm14⟩;have HC14':=lH hc14;have HE14':=lH (CBox.mod HE13.o hm14 (zAf hCE));have HN14':=lH (HN13.o.trans (hm14.mono (fun k hk=>by rw [List.mem_singleton.1 hk];simp)));clear HCA hc14 hm14 HC13 HE13 HN13;have x4:=HE14'.o.cell (i:=4) (v:=.bool false) rfl;have xf4:=HE14'.o.frozen 4;have xl:=HE14'.o.lt;go_upto_region 11 with (fail)
   clear x4 xf4 xl;have hE14:CBox (w14.setCell ⟨E,4,none⟩ (.bool (ke==1))) E 62 #[.int .i64 ka,.int .i64 kb,.bool (kc==1),.slice none 0 0,.bool (ke==1),.int .i64 0,.string ⟨#[]⟩,.string ⟨#[]⟩,.int .i64 0,.int .i64 0,.slice none 0 0]:=HE14'.o.set 4 _;have hM14:Mod [E] w14 (w14.setCell ⟨E,4,none⟩ (.bool (ke==1))):=(Mod.refl [E] w14).setCell (p:=⟨E,4,none⟩) (List.mem_singleton.2 rfl) _;generalize World.setCell _ ⟨E,4,none⟩ _=v14 at *;have HE14:=lH hE14;have HC14:=lH (HC14'.o.mod hM14 (zAf (Ne.symm hCE)))
   have HN14:=lH (HN14'.o.trans (hM14.mono (fun k hk=>by rw [List.mem_singleton.1 hk];simp)));clear hE14 hM14 HE14' HC14' HN14';have hr15:=(zAr 3 s14).1;have hv15:=zCa 3 s14;have HCA:=lH (zBk C s14.1 s14.2 3 v14 HC14.o (by omega) (by omega));rw [show ((s14.1,s14.2):St)=s14 from rfl] at HCA;obtain ⟨p15,hp15⟩:∃p,rdN 3 s14=p:=⟨_,rfl⟩;rw [hp15] at HCA hr15 hv15;obtain ⟨nnI,s15⟩:=p15;have HP15:=lH hp15;have hl15:s15.1.length≤1000000:=Nat.le_trans hr15 (by omega);clear hp15 hr15;simp only at hv15
   go_wp2_with (fail)
   refine HCA.o.mono ?_;rintro e w15 ⟨rfl,hc15,hm15⟩;have HC15':=lH hc15;have HE15':=lH (CBox.mod HE14.o hm15 (zAf hCE));have HN15':=lH (HN14.o.trans (hm15.mono (fun k hk=>by rw [List.mem_singleton.1 hk];simp)));clear HCA hc15 hm15 HC14 HE14 HN14;obtain ⟨nn,rfl⟩:∃n:Nat,nnI=n:=⟨nnI.toNat,(Int.toNat_of_nonneg hv15.1).symm⟩;have hn3:nn≤3:=by omega
   have HDD:Hid ((dd,sn)=((⟨ka,kb,kc==1,(rdL rdT nn s15).1,ke==1,(rdX 40 (rdL rdT nn s15).2).1⟩:ODecl),(rdX 40 (rdL rdT nn s15).2).2)):=by
    show _=_
    rw [HRD.o];simp only [HP11.o,HP12.o,HP13.o,HP14.o,HP15.o,Int.toNat_natCast]
   obtain ⟨Z,hZ⟩:∃Z,u3.ownBlock.toList++(E::X)=Z:=⟨_,rfl⟩
   have HZF:Hid (C∈Z∧E∈Z∧(∀k∈Z,k<E+1)):=by
    refine ⟨by rw [←hZ];simp [HCX.o],by rw [←hZ];simp,fun k hk=>?_⟩;rw [←hZ] at hk
    rcases List.mem_append.1 hk with hk|hk
    ·have:=(HDB.o k (by simpa using hk)).2;omega
    ·rcases List.mem_cons.1 hk with rfl|hk
     ·omega
     ·have:=HXW.o k hk;have:=HWE.o;omega
   have HZE:=lH hZ;clear HRD HP11 HP12 HP13 HP14 HP15 hl11 hl12 hl13 hl14 hv11 hv12 hv13 hv14 hv15 hZ hsr;go_wp2;generalize wr=wo at *
   go_loopw [8] (fun jv wr=>∃(j:Nat) (nv:Value) (NL:List ByteArray) (sq:St),j≤nn∧jv=.int .i64 j∧NL.length=j∧sq.1.length≤1000000∧Hid (rdL rdT nn s15=(NL++(rdL rdT (nn - j) sq).1,(rdL rdT (nn - j) sq).2))∧Hid (OwnT wr Z (E+1) 9 1 (fun s=>[strT s]) nv NL)∧Hid (CBox wr E 62 #[.int .i64 ka,.int .i64 kb,.bool (kc==1),nv,.bool (ke==1),.int .i64 0,.string ⟨#[]⟩,.string ⟨#[]⟩,.int .i64 0,.int .i64 0,.slice none 0 0])∧Hid (RdB wr C sq)∧Hid (Mod [C,E] w5 wr)) (fun jv _=>nn - (intOf jv).toNat)
   case atStart=>exact ⟨0,.slice none 0 0,[],s15,Nat.zero_le _,rfl,rfl,hl15,rfl,OwnT.nil _ _ _ _ _ _,HE15',HC15',HN15'⟩
   case round=>
    clear HE15' HC15' HN15' hl15;obtain ⟨j,nv,NL,sq,hjn,rfl,hNj,hsq,HRQ,HS,HE,HC,HN⟩:=hrel;have c1:=HC.o.cell (i:=1) (v:=.bool sq.2) rfl;have cl:=HC.o.lt
    by_cases hgo:j<nn∧sq.2=false
    ·obtain ⟨hj,hsb⟩:=hgo
     rw [hsb] at c1;have hg1:decide ((j:Int)<(nn:Int))=true:=decide_eq_true (by omega);have hg2:decide (j<nn)=true:=decide_eq_true hj;go_upto_region 15 with (fail)
     have HCA:=lH (zEh C sq.1 sq.2 wr.drew (HC.o.below (Mod.refl [] wr).drew.below) hsq);rw [show ((sq.1,sq.2):St)=sq from rfl] at HCA;have HSQ:Hid (rdL rdT (nn - j) sq=((rdT sq).1::(rdL rdT (nn - (j+1)) (rdT sq).2).1,(rdL rdT (nn - (j+1)) (rdT sq).2).2)):=zOw hj hsb;have hln:=Nat.le_trans (zBj sq).1 hsq;obtain ⟨p,hp⟩:∃p,rdT sq=p:=⟨_,rfl⟩;rw [hp] at HCA HSQ hln;obtain ⟨y,st⟩:=p;simp only at hln
     have HN1:=lH (HN.o.drew);have HE1:=lH (CBox.below HE.o (Mod.refl [] wr).drew.below);have HS1:=lH (HS.o.below (Mod.refl [] wr).drew.below);have hS0:wr.drew.cell? ⟨E,3,none⟩=some nv∧E<wr.drew.heap.size:=⟨HE1.o.cell (i:=3) (v:=nv) rfl,HE1.o.lt⟩;clear hp c1 cl HE HS HN HC hsb;refine wp_region_noPanic (zBe (fun W:World=>W.cell? ⟨E,3,none⟩=some nv∧E<W.heap.size) 5 [(true,0),(true,1),(true,2),(false,3),(false,4)] zBm (by kernel_rfl) (fun _ _ _ _ _ h=>h) hS0 ?_)
     iterate 3 (refine zAy (v:=?_) rfl (by rfl) ?_ ?_;rotate_left;(focus (intro wq hSw;(try dsimp only at hSw);go_simp;(try rw [if_neg (by first|omega|(simp;omega))]);(try with_reducible rfl)));(try simp only [gA,gB,gC,Act.put,gD,gE,gF]))
     generalize wr.drew=v0 at *
     (refine zBo rfl (by rfl) (fun K hK=>?_);go_simp)
     refine HCA.o.mono ?_;rintro e v1 ⟨rfl,hcy,hmy⟩
     (try go_simp)
     have HE2:=lH (CBox.mod HE1.o hmy (zAf hCE));refine hK.out _ _ ⟨HE2.o.cell (i:=3) (v:=nv) rfl,HE2.o.lt⟩ ?_;clear hK K;(try simp only [gA,gB,gC,Act.put,gD,gE,gF]);have hal:=zAa v1 (.cells #[.string y] 9);have HYB:=lH (CBox.new v1 9 #[.string y]);have HS3:=lH ((HS1.o.mod (hmy.mono (fun k hk=>by rw [List.mem_singleton.1 hk];exact HZF.o.1)) (fun k hk hX=>by have h1:=HS1.o.ge hk;have:=HZF.o.2.2 k hX;omega)).below hal);have HE3:=lH (CBox.below HE2.o hal);have HC3:=lH (RdB.below hcy hal)
     have HN3:=lH ((HN1.o.trans (hmy.mono (fun k hk=>by rw [List.mem_singleton.1 hk];simp))).trans ((Mod.of hal).mono (X:=[]) (fun k hk=>by cases hk)));clear hal HCA hcy hmy HE1 HN1 HS1 hS0
     (refine zBo rfl (by rfl) (fun K hK=>?_);go_simp)
     refine hK.out _ _ ⟨HE3.o.cell (i:=3) (v:=nv) rfl,HE3.o.lt⟩ ?_;clear hK K HE2;(try simp only [gA,gB,gC,Act.put,gD,gE,gF]);generalize World.alloc v1 _=v2 at *;generalize v1.heap.size=N at *;refine zBy ?_;simp only [List.drop_succ_cons,List.drop_zero]
     refine zLe rfl _ _ rfl rfl HS3.o rfl (by exact HYB.o) (by omega) (HE3.o.lt) ?_;intro v' v3 ho4 hm4;obtain ⟨a4,c4,hv4,-,-⟩:=ho4.val;rw [List.length_append,hNj] at hv4;have hv5:v'=.slice a4 (j+1) c4:=hv4;clear hv4;subst hv5;have hge:∀k,k∈nv.ownBlock.toList→E+1≤k:=fun k hk=>HS3.o.ge (by simpa using hk);have hCl:C<E+1:=HZF.o.2.2 C HZF.o.1;have HE4:=lH (CBox.mod HE3.o hm4 (fun h=>by have:=hge _ h;omega));have HC4:=lH (HC3.o.mod hm4 (fun h=>by have:=hge _ h;omega))
     have HN4:=lH (HN3.o.past hm4 (fun g hg=>by have:=hge _ hg;rw [HZ0.o];omega));have HS4:=lH ho4;clear hm4 ho4 hge hCl HS3 HYB HE3 HC3 HN3;have e3:=HE4.o.cell (i:=3) (v:=nv) rfl;have f3:=HE4.o.frozen 3;have el:=HE4.o.lt;go_wp2;refine NoPanic.normal ?_;clear e3 f3 el;have HE5:Hid (CBox (v3.setCell ⟨E,3,none⟩ (.slice a4 (j+1) c4)) E 62 #[.int .i64 ka,.int .i64 kb,.bool (kc==1),.slice a4 (j+1) c4,.bool (ke==1),.int .i64 0,.string ⟨#[]⟩,.string ⟨#[]⟩,.int .i64 0,.int .i64 0,.slice none 0 0]):=HE4.o.set 3 _
     have hm5:Mod [E] v3 (v3.setCell ⟨E,3,none⟩ (.slice a4 (j+1) c4)):=(Mod.refl [E] v3).setCell (p:=⟨E,3,none⟩) (List.mem_singleton.2 rfl) _;generalize World.setCell _ ⟨E,3,none⟩ _=v4 at *;have HC5:=lH (HC4.o.mod hm5 (zAf (Ne.symm hCE)));have HN5:=lH (HN4.o.trans (hm5.mono (fun k hk=>by rw [List.mem_singleton.1 hk];simp)));have HS5:=lH (HS4.o.mod (hm5.mono (fun k hk=>by rw [List.mem_singleton.1 hk];exact HZF.o.2.1)) (fun k hk hX=>by have h1:=HS4.o.ge hk;have:=HZF.o.2.2 k hX;omega))
     have HR5:Hid (rdL rdT nn s15=((NL++[y])++(rdL rdT (nn - (j+1)) st).1,(rdL rdT (nn - (j+1)) st).2)):=by
      show _=_
      rw [HRQ.o,HSQ.o,List.append_assoc];rfl
     have hlen:(NL++[y]).length=j+1:=by rw [List.length_append,hNj];rfl
     clear hm5 HE4 HC4 HN4 HS4 HRQ HSQ hg1 hg2;go_wp2;go_roundw
     case rel=>exact ⟨j+1,.slice a4 (j+1) c4,NL++[y],st,by omega,by go_num,hlen,hln,HR5,HS5,HE5,HC5,HN5⟩
     case measure=>simp [intOf];omega
    ·have HL0:Hid (rdL rdT nn s15=(NL,sq)):=by
      show _=_
      rw [HRQ.o,zOx (by rcases Nat.lt_or_ge j nn with h|h;exact .inr (by cases hb:sq.2 with|true=>rfl|false=>exact absurd ⟨h,hb⟩ hgo);exact .inl (by omega)),List.append_nil]
     obtain ⟨na,nc,rfl,hnc1,hnc2⟩:=HS.o.val;rw [HL0.o] at HDD
     have HQ:Hid (if j<nn then sq.2=true else True):=by
      show if _ then _ else _
      split
      ·cases hb:sq.2 with
       | true=>rfl
       | false=>exact absurd ⟨by assumption,hb⟩ hgo
      ·trivial
     have HNR:Hid (Reads wr Z (strsT NL) (.slice na NL.length nc)):=HS.o.reads (fun k hk hX=>by have h1:=HS.o.ge hk;have:=HZF.o.2.2 k hX;omega);have hZl:∀k∈Z,k<wr.heap.size:=fun k hk=>by have:=HZF.o.2.2 k hk;have:=HE.o.lt;omega
     have HCX2:=lH (zNi 40 (Nat.le_refl _) C sq Z wr HC.o hsq hZl HZF.o.1);unfold exV at HCX2;obtain ⟨px,hpx⟩:∃p,rdX 40 sq=p:=⟨_,rfl⟩;simp only at HDD
     rw [hpx] at HCX2 HDD;obtain ⟨x,sx⟩:=px;simp only at HCX2 HDD
     clear hpx HRQ HL0 HS hgo hnc1 hnc2 hZl hNj HC;obtain ⟨hdd,hsn⟩:=Prod.mk.inj HDD.o;clear HDD;subst hdd;subst hsn
     by_cases hj:j<nn
     ·have hg1:decide ((j:Int)<(nn:Int))=true:=decide_eq_true (by omega)
      have hg2:decide (j<nn)=true:=decide_eq_true hj;have hq:=HQ.o;rw [if_pos hj] at hq;rw [hq] at c1;clear HQ hq;go_wp2_with (fail)
      refine HCX2.o.mono ?_;rintro e w6 ⟨xa,xc,rfl,hc6,hm6,hx6⟩;have HC6:=lH hc6;have HE6:=lH (CBox.mod HE.o hm6 (zAf hCE));have HN6:=lH (HN.o.trans (hm6.mono (fun k hk=>by rw [List.mem_singleton.1 hk];simp)));have HNR6:=lH (HNR.o.mod (hm6.mono (fun k hk=>by rw [List.mem_singleton.1 hk];exact HZF.o.1)));have HX6:=lH hx6;clear HCX2 hc6 hm6 hx6 HE HN HNR c1 cl;obtain ⟨-,-,-,-,-,e5,e6,e7,e8,e9,e10,el⟩:=zAz HE6.o;obtain ⟨-,-,-,-,-,f5,f6,f7,f8,f9,f10⟩:=zEl HE6.o;go_upto_region 17 with (fail)
      clear e5 f5 e6 f6 e7 f7 e8 f8 e9 f9 e10 f10 el
      have hE7:CBox ((((((w6.setCell ⟨E,5,none⟩ (.int .i64 x.kind)).setCell ⟨E,6,none⟩ (.string x.name)).setCell ⟨E,7,none⟩ (.string x.more)).setCell ⟨E,8,none⟩ (.int .i64 x.num)).setCell ⟨E,9,none⟩ (.int .i64 x.den)).setCell ⟨E,10,none⟩ (.slice xa x.subs.length xc)) E 62 #[.int .i64 ka,.int .i64 kb,.bool (kc==1),.slice na NL.length nc,.bool (ke==1),.int .i64 x.kind,.string x.name,.string x.more,.int .i64 x.num,.int .i64 x.den,.slice xa x.subs.length xc]:=(((((HE6.o.set 5 _).set 6 _).set 7 _).set 8 _).set 9 _).set 10 _
      have hM7:Mod [E] w6 ((((((w6.setCell ⟨E,5,none⟩ (.int .i64 x.kind)).setCell ⟨E,6,none⟩ (.string x.name)).setCell ⟨E,7,none⟩ (.string x.more)).setCell ⟨E,8,none⟩ (.int .i64 x.num)).setCell ⟨E,9,none⟩ (.int .i64 x.den)).setCell ⟨E,10,none⟩ (.slice xa x.subs.length xc)):=((((((Mod.refl [E] w6).setCell (p:=⟨E,5,none⟩) (List.mem_singleton.2 rfl) _).setCell (p:=⟨E,6,none⟩) (List.mem_singleton.2 rfl) _).setCell (p:=⟨E,7,none⟩) (List.mem_singleton.2 rfl) _).setCell (p:=⟨E,8,none⟩) (List.mem_singleton.2 rfl) _).setCell (p:=⟨E,9,none⟩) (List.mem_singleton.2 rfl) _).setCell (p:=⟨E,10,none⟩) (List.mem_singleton.2 rfl) _
      generalize World.setCell _ ⟨E,10,none⟩ _=w7 at *;have HE7:=lH hE7;have HC7:=lH (HC6.o.mod hM7 (zAf (Ne.symm hCE)));have HN7:=lH (HN6.o.trans (hM7.mono (fun k hk=>by rw [List.mem_singleton.1 hk];simp)));have HNR7:=lH (HNR6.o.mod (hM7.mono (fun k hk=>by rw [List.mem_singleton.1 hk];exact HZF.o.2.1)));have HX7:=lH (HX6.o.mod (hM7.mono (fun k hk=>by rw [List.mem_singleton.1 hk];exact HZF.o.2.1)))
      have HO7:=lH (HO0.o.mod (HN7.o.mono (fun k hk=>by
       rcases List.mem_cons.1 hk with rfl|hk
       ·exact List.mem_cons_of_mem _ HCX.o
       ·rw [List.mem_singleton.1 hk];exact List.mem_cons_self)) (fun k hk hX=>by
       have h1:=HDB.o k hk
       rcases List.mem_cons.1 hX with h|h
       ·omega
       ·have:=HXW.o k h;omega))
      have HM7:=lH (HM0.o.then2 HN7.o HWE.o);clear hE7 hM7 HE6 HC6 HN6 HNR6 HX6 HN7;obtain ⟨e0,e1,e2,e3,e4,e5,e6,e7,e8,e9,e10,el⟩:=zAz HE7.o;have hal:=zAa w7 (.cells #[.int .i64 ka,.int .i64 kb,.bool (kc==1),.slice na NL.length nc,.bool (ke==1),.int .i64 x.kind,.string x.name,.string x.more,.int .i64 x.num,.int .i64 x.den,.slice xa x.subs.length xc] 62)
      have HYB:=lH (CBox.new w7 62 #[.int .i64 ka,.int .i64 kb,.bool (kc==1),.slice na NL.length nc,.bool (ke==1),.int .i64 x.kind,.string x.name,.string x.more,.int .i64 x.num,.int .i64 x.den,.slice xa x.subs.length xc]);have HO8:=lH (HO7.o.below hal);have HC8:=lH (HC7.o.below hal);have HM8:=lH (HM7.o.trans ((Mod.of hal).mono (X:=[]) (fun k hk=>by cases hk)));have HNR8:=lH (HNR7.o.below hal);have HX8:=lH (HX7.o.below hal)
      have hsz:w.heap.size≤(w7.alloc (.cells #[.int .i64 ka,.int .i64 kb,.bool (kc==1),.slice na NL.length nc,.bool (ke==1),.int .i64 x.kind,.string x.name,.string x.more,.int .i64 x.num,.int .i64 x.den,.slice xa x.subs.length xc] 62)).heap.size:=HM8.o.size;rw [←HZE.o] at HNR8 HX8;clear hal HO7 HC7 HM7 HNR7 HX7;go_wp2_with (at_builtin;refine zLf (d:=⟨ka,kb,kc==1,NL,ke==1,x⟩) (an:=na) (cn:=nc) (sa:=xa) (cs:=xc) rfl _ _ rfl rfl HO8.o rfl (by exact HYB.o) HNR8.o HX8.o.subs (by omega) hsz ?_;rintro v' w9 ho9 hm9)
      replace hm9:Mod u3.ownBlock.toList _ w9:=hm9;have HO9:=lH (ho9.fewer (Y:=X) inT);have HC9:=lH (HC8.o.mod hm9 (fun h=>by have h1:=HDB.o _ (by simpa using h);have:=HXW.o _ HCX.o;omega));have HM9:=lH (HM8.o.past hm9 (fun g hg=>(HDB.o g (by simpa using hg)).1))
      have HR9:Hid (rdL rdD kk s1=((L++[⟨ka,kb,kc==1,NL,ke==1,x⟩])++(rdL rdD (kk - (i+1)) sn).1,(rdL rdD (kk - (i+1)) sn).2)):=by
       show _=_
       rw [HRR.o,HST.o,List.append_assoc];rfl
      have hlen:(L++[(⟨ka,kb,kc==1,NL,ke==1,x⟩:ODecl)]).length=i+1:=by rw [List.length_append,hLi];rfl
      have hsn:=HLN.o;clear ho9 hm9 HYB HO8 HC8 HM8 HNR8 HX8 hsz;go_wp2;go_roundw
      case rel=>exact ⟨i+1,L++[⟨ka,kb,kc==1,NL,ke==1,x⟩],sn,by omega,by go_num,hlen,hsn,HR9,HO9,HC9,HM9⟩
      case measure=>simp [intOf];omega
     ·have hg1:decide ((j:Int)<(nn:Int))=false:=decide_eq_false (by omega)
      have hg2:decide (j<nn)=false:=decide_eq_false hj;clear HQ;go_wp2_with (fail)
      refine HCX2.o.mono ?_;rintro e w6 ⟨xa,xc,rfl,hc6,hm6,hx6⟩;have HC6:=lH hc6;have HE6:=lH (CBox.mod HE.o hm6 (zAf hCE));have HN6:=lH (HN.o.trans (hm6.mono (fun k hk=>by rw [List.mem_singleton.1 hk];simp)));have HNR6:=lH (HNR.o.mod (hm6.mono (fun k hk=>by rw [List.mem_singleton.1 hk];exact HZF.o.1)));have HX6:=lH hx6;clear HCX2 hc6 hm6 hx6 HE HN HNR c1 cl;obtain ⟨-,-,-,-,-,e5,e6,e7,e8,e9,e10,el⟩:=zAz HE6.o;obtain ⟨-,-,-,-,-,f5,f6,f7,f8,f9,f10⟩:=zEl HE6.o;go_upto_region 17 with (fail)
      clear e5 f5 e6 f6 e7 f7 e8 f8 e9 f9 e10 f10 el
      have hE7:CBox ((((((w6.setCell ⟨E,5,none⟩ (.int .i64 x.kind)).setCell ⟨E,6,none⟩ (.string x.name)).setCell ⟨E,7,none⟩ (.string x.more)).setCell ⟨E,8,none⟩ (.int .i64 x.num)).setCell ⟨E,9,none⟩ (.int .i64 x.den)).setCell ⟨E,10,none⟩ (.slice xa x.subs.length xc)) E 62 #[.int .i64 ka,.int .i64 kb,.bool (kc==1),.slice na NL.length nc,.bool (ke==1),.int .i64 x.kind,.string x.name,.string x.more,.int .i64 x.num,.int .i64 x.den,.slice xa x.subs.length xc]:=(((((HE6.o.set 5 _).set 6 _).set 7 _).set 8 _).set 9 _).set 10 _
      have hM7:Mod [E] w6 ((((((w6.setCell ⟨E,5,none⟩ (.int .i64 x.kind)).setCell ⟨E,6,none⟩ (.string x.name)).setCell ⟨E,7,none⟩ (.string x.more)).setCell ⟨E,8,none⟩ (.int .i64 x.num)).setCell ⟨E,9,none⟩ (.int .i64 x.den)).setCell ⟨E,10,none⟩ (.slice xa x.subs.length xc)):=((((((Mod.refl [E] w6).setCell (p:=⟨E,5,none⟩) (List.mem_singleton.2 rfl) _).setCell (p:=⟨E,6,none⟩) (List.mem_singleton.2 rfl) _).setCell (p:=⟨E,7,none⟩) (List.mem_singleton.2 rfl) _).setCell (p:=⟨E,8,none⟩) (List.mem_singleton.2 rfl) _).setCell (p:=⟨E,9,none⟩) (List.mem_singleton.2 rfl) _).setCell (p:=⟨E,10,none⟩) (List.mem_singleton.2 rfl) _
      generalize World.setCell _ ⟨E,10,none⟩ _=w7 at *;have HE7:=lH hE7;have HC7:=lH (HC6.o.mod hM7 (zAf (Ne.symm hCE)));have HN7:=lH (HN6.o.trans (hM7.mono (fun k hk=>by rw [List.mem_singleton.1 hk];simp)));have HNR7:=lH (HNR6.o.mod (hM7.mono (fun k hk=>by rw [List.mem_singleton.1 hk];exact HZF.o.2.1)));have HX7:=lH (HX6.o.mod (hM7.mono (fun k hk=>by rw [List.mem_singleton.1 hk];exact HZF.o.2.1)))
      have HO7:=lH (HO0.o.mod (HN7.o.mono (fun k hk=>by
       rcases List.mem_cons.1 hk with rfl|hk
       ·exact List.mem_cons_of_mem _ HCX.o
       ·rw [List.mem_singleton.1 hk];exact List.mem_cons_self)) (fun k hk hX=>by
       have h1:=HDB.o k hk
       rcases List.mem_cons.1 hX with h|h
       ·omega
       ·have:=HXW.o k h;omega))
      have HM7:=lH (HM0.o.then2 HN7.o HWE.o);clear hE7 hM7 HE6 HC6 HN6 HNR6 HX6 HN7;obtain ⟨e0,e1,e2,e3,e4,e5,e6,e7,e8,e9,e10,el⟩:=zAz HE7.o;have hal:=zAa w7 (.cells #[.int .i64 ka,.int .i64 kb,.bool (kc==1),.slice na NL.length nc,.bool (ke==1),.int .i64 x.kind,.string x.name,.string x.more,.int .i64 x.num,.int .i64 x.den,.slice xa x.subs.length xc] 62)
      have HYB:=lH (CBox.new w7 62 #[.int .i64 ka,.int .i64 kb,.bool (kc==1),.slice na NL.length nc,.bool (ke==1),.int .i64 x.kind,.string x.name,.string x.more,.int .i64 x.num,.int .i64 x.den,.slice xa x.subs.length xc]);have HO8:=lH (HO7.o.below hal);have HC8:=lH (HC7.o.below hal);have HM8:=lH (HM7.o.trans ((Mod.of hal).mono (X:=[]) (fun k hk=>by cases hk)));have HNR8:=lH (HNR7.o.below hal);have HX8:=lH (HX7.o.below hal)
      have hsz:w.heap.size≤(w7.alloc (.cells #[.int .i64 ka,.int .i64 kb,.bool (kc==1),.slice na NL.length nc,.bool (ke==1),.int .i64 x.kind,.string x.name,.string x.more,.int .i64 x.num,.int .i64 x.den,.slice xa x.subs.length xc] 62)).heap.size:=HM8.o.size;rw [←HZE.o] at HNR8 HX8;clear hal HO7 HC7 HM7 HNR7 HX7;go_wp2_with (at_builtin;refine zLf (d:=⟨ka,kb,kc==1,NL,ke==1,x⟩) (an:=na) (cn:=nc) (sa:=xa) (cs:=xc) rfl _ _ rfl rfl HO8.o rfl (by exact HYB.o) HNR8.o HX8.o.subs (by omega) hsz ?_;rintro v' w9 ho9 hm9)
      replace hm9:Mod u3.ownBlock.toList _ w9:=hm9;have HO9:=lH (ho9.fewer (Y:=X) inT);have HC9:=lH (HC8.o.mod hm9 (fun h=>by have h1:=HDB.o _ (by simpa using h);have:=HXW.o _ HCX.o;omega));have HM9:=lH (HM8.o.past hm9 (fun g hg=>(HDB.o g (by simpa using hg)).1))
      have HR9:Hid (rdL rdD kk s1=((L++[⟨ka,kb,kc==1,NL,ke==1,x⟩])++(rdL rdD (kk - (i+1)) sn).1,(rdL rdD (kk - (i+1)) sn).2)):=by
       show _=_
       rw [HRR.o,HST.o,List.append_assoc];rfl
      have hlen:(L++[(⟨ka,kb,kc==1,NL,ke==1,x⟩:ODecl)]).length=i+1:=by rw [List.length_append,hLi];rfl
      have hsn:=HLN.o;clear ho9 hm9 HYB HO8 HC8 HM8 HNR8 HX8 hsz;go_wp2;go_roundw
      case rel=>exact ⟨i+1,L++[⟨ka,kb,kc==1,NL,ke==1,x⟩],sn,by omega,by go_num,hlen,hsn,HR9,HO9,HC9,HM9⟩
      case measure=>simp [intOf];omega
  ·have HL0:Hid (rdL rdD kk s1=(L,sr)):=by
    show _=_
    rw [HRR.o,zOx (by rcases Nat.lt_or_ge i kk with h|h;exact .inr (by cases hb:sr.2 with|true=>rfl|false=>exact absurd ⟨h,hb⟩ hgo);exact .inl (by omega)),List.append_nil]
   obtain ⟨va,vc,rfl,hvc1,hvc2⟩:=HO.o.val;have HVC:Hid (L.length≤vc∧vc≤9223372036854775807):=⟨hvc1,hvc2⟩;have HP2:Hid (P=(L,sr)):=by show _=_;rw [HPP.o,HL0.o]
   have HQ:Hid (if i<kk then sr.2=true else True):=by
    show if _ then _ else _
    split
    ·cases hb:sr.2 with
     | true=>rfl
     | false=>exact absurd ⟨by assumption,hb⟩ hgo
    ·trivial
   have HFI:Hid (Reads wr X (declsT L) (.slice va L.length vc)):=HO.o.reads (fun k hk hX=>by have h1:=HO.o.ge hk;have:=HXW.o k hX;omega);clear hvc1 hvc2 HRR HPP HL0 HO hgo hLi
   by_cases hi:i<kk
   ·have hd1:decide ((i:Int)<(kk:Int))=true:=decide_eq_true (by omega)
    have hd2:decide (i<kk)=true:=decide_eq_true hi;have hq:=HQ.o;rw [if_pos hi] at hq;rw [hq] at c1;go_wp2;go_ret;exact ⟨va,vc,by rw [HP2.o];rfl,by rw [HP2.o];exact HC.o,HM.o,by rw [HP2.o];exact HFI.o,by rw [HP2.o];exact HVC.o⟩
   ·have hd1:decide ((i:Int)<(kk:Int))=false:=decide_eq_false (by omega)
    have hd2:decide (i<kk)=false:=decide_eq_false hi;go_wp2;go_ret;exact ⟨va,vc,by rw [HP2.o];rfl,by rw [HP2.o];exact HC.o,HM.o,by rw [HP2.o];exact HFI.o,by rw [HP2.o];exact HVC.o⟩
theorem CBox.fives {w:World} {B:Nat} {t:TypeId} {a0 a1 a2 a3 a4:Value} (h:CBox w B t #[a0,a1,a2,a3,a4]) (v0 v1 v2 v3 v4:Value) :
  CBox (((((w.setCell ⟨B,0,none⟩ v0).setCell ⟨B,1,none⟩ v1).setCell ⟨B,2,none⟩ v2).setCell ⟨B,3,none⟩ v3).setCell ⟨B,4,none⟩ v4) B t #[v0,v1,v2,v3,v4] ∧
  Mod [B] w (((((w.setCell ⟨B,0,none⟩ v0).setCell ⟨B,1,none⟩ v1).setCell ⟨B,2,none⟩ v2).setCell ⟨B,3,none⟩ v3).setCell ⟨B,4,none⟩ v4):=by
 have h0:CBox _ B t #[v0,a1,a2,a3,a4]:=h.set 0 v0;have h1:CBox _ B t #[v0,v1,a2,a3,a4]:=h0.set 1 v1;have h2:CBox _ B t #[v0,v1,v2,a3,a4]:=h1.set 2 v2;have h3:CBox _ B t #[v0,v1,v2,v3,a4]:=h2.set 3 v3;have hB:B∈[B]:=List.mem_singleton.2 rfl;exact ⟨h3.set 4 v4,(((((Mod.refl [B] w).setCell (p:=⟨B,0,none⟩) hB v0).setCell (p:=⟨B,1,none⟩) hB v1).setCell (p:=⟨B,2,none⟩) hB v2).setCell (p:=⟨B,3,none⟩) hB v3).setCell (p:=⟨B,4,none⟩) hB v4⟩
def DecPost (w:World) (P:OEdit×Int) (r:Ending) (w':World):Prop:=
  ∃ao co af cf,r=.returned (.tuple #[editV P.1 ao co af cf,.int .i64 P.2])∧EditIn w' P.1 ao co af cf∧Below w.heap.size w w'
theorem zDe (w:World):EditIn w zeroE none 0 none 0:=⟨Reads.nilRow _ _ _ _,Reads.nilRow _ _ _ _,Nat.le_refl _,by omega,Nat.le_refl _,by omega⟩
theorem zWn (s:List UInt8) (hs:s.length≤40000) (w:World):Calls Tryz.prog 23 #[.string ⟨s.toArray⟩] w fun r w'=>DecPost w (decP s) r w':=by
 obtain ⟨s0,hs0⟩:∃s0:St,(s,false)=s0:=⟨_,rfl⟩;have HPE:Hid (rdE s=((⟨(rdN 1099511627776 s0).1,(rdT (rdN 1099511627776 s0).2).1,(rdT (rdT (rdN 1099511627776 s0).2).2).1,(rdDs (rdT (rdT (rdN 1099511627776 s0).2).2).2).1,(rdDs (rdDs (rdT (rdT (rdN 1099511627776 s0).2).2).2).2).1⟩:OEdit),(rdDs (rdDs (rdT (rdT (rdN 1099511627776 s0).2).2).2).2).2)):=by rw [←hs0];rfl
 have hl0:s0.1.length≤1000000:=by rw [←hs0];show s.length≤_;omega
 have HSM:Hid (SmE (rdE s).1):=(zQy s hs).sm (Nat.le_refl _);have HD0:Hid ((rdE s).2.2=true∨(rdE s).2.1≠[]→decP s=(zeroE,13)):=fun h=>by unfold decP;rw [if_pos h]
 have HD1:Hid ((rdE s).2.2=false→(rdE s).2.1=[]→editErr (rdE s).1=0→encE (rdE s).1=s→decP s=((rdE s).1,0)):=fun h1 h2 h3 h4=>by unfold decP;rw [if_neg (by rw [h1,h2];simp),if_pos ⟨h3,h4⟩]
 have HD2:Hid ((rdE s).2.2=false→(rdE s).2.1=[]→¬(editErr (rdE s).1=0∧encE (rdE s).1=s)→decP s=(zeroE,13)):=fun h1 h2 h3=>by unfold decP;rw [if_neg (by rw [h1,h2];simp),if_neg h3]
 have HES:Hid (∀e:OEdit,editErr e=0→encS e=⟨(encE e).toArray⟩):=fun e h=>by unfold encS;rw [if_pos h]
 generalize decP s=Q at *;generalize rdE s=P at *;obtain ⟨S,hS⟩:∃S:ByteArray,S=⟨s.toArray⟩:=⟨_,rfl⟩;rw [←hS];have HSS:=lH hS;have h1:=zAa w (.cells #[.int .i64 0,.string ⟨#[]⟩,.string ⟨#[]⟩,.slice none 0 0,.slice none 0 0] 39);have h2:=zAa (w.alloc (.cells #[.int .i64 0,.string ⟨#[]⟩,.string ⟨#[]⟩,.slice none 0 0,.slice none 0 0] 39)) (.cells #[.string S,.bool false] 100)
 have h3:=zAa ((w.alloc (.cells #[.int .i64 0,.string ⟨#[]⟩,.string ⟨#[]⟩,.slice none 0 0,.slice none 0 0] 39)).alloc (.cells #[.string S,.bool false] 100)) (.cells #[.int .i64 0,.string ⟨#[]⟩,.string ⟨#[]⟩,.slice none 0 0,.slice none 0 0] 39)
 have hR:CBox (((w.alloc (.cells #[.int .i64 0,.string ⟨#[]⟩,.string ⟨#[]⟩,.slice none 0 0,.slice none 0 0] 39)).alloc (.cells #[.string S,.bool false] 100)).alloc (.cells #[.int .i64 0,.string ⟨#[]⟩,.string ⟨#[]⟩,.slice none 0 0,.slice none 0 0] 39)) w.heap.size 39 #[.int .i64 0,.string ⟨#[]⟩,.string ⟨#[]⟩,.slice none 0 0,.slice none 0 0]:=(CBox.below (CBox.new w 39 #[.int .i64 0,.string ⟨#[]⟩,.string ⟨#[]⟩,.slice none 0 0,.slice none 0 0]) h2).below h3
 have hC:CBox (((w.alloc (.cells #[.int .i64 0,.string ⟨#[]⟩,.string ⟨#[]⟩,.slice none 0 0,.slice none 0 0] 39)).alloc (.cells #[.string S,.bool false] 100)).alloc (.cells #[.int .i64 0,.string ⟨#[]⟩,.string ⟨#[]⟩,.slice none 0 0,.slice none 0 0] 39)) (w.heap.size+1) 100 #[.string S,.bool false]:=by
  have:=CBox.new (w.alloc (.cells #[.int .i64 0,.string ⟨#[]⟩,.string ⟨#[]⟩,.slice none 0 0,.slice none 0 0] 39)) 100 #[.string S,.bool false];rw [World.size_alloc] at this;exact this.below h3
 have hE:CBox (((w.alloc (.cells #[.int .i64 0,.string ⟨#[]⟩,.string ⟨#[]⟩,.slice none 0 0,.slice none 0 0] 39)).alloc (.cells #[.string S,.bool false] 100)).alloc (.cells #[.int .i64 0,.string ⟨#[]⟩,.string ⟨#[]⟩,.slice none 0 0,.slice none 0 0] 39)) (w.heap.size+1+1) 39 #[.int .i64 0,.string ⟨#[]⟩,.string ⟨#[]⟩,.slice none 0 0,.slice none 0 0]:=by
  have:=CBox.new ((w.alloc (.cells #[.int .i64 0,.string ⟨#[]⟩,.string ⟨#[]⟩,.slice none 0 0,.slice none 0 0] 39)).alloc (.cells #[.string S,.bool false] 100)) 39 #[.int .i64 0,.string ⟨#[]⟩,.string ⟨#[]⟩,.slice none 0 0,.slice none 0 0];rw [World.size_alloc,World.size_alloc] at this;exact this
 have HB0:=lH (zA (zA h1 h2) h3)
 have hCr:RdB (((w.alloc (.cells #[.int .i64 0,.string ⟨#[]⟩,.string ⟨#[]⟩,.slice none 0 0,.slice none 0 0] 39)).alloc (.cells #[.string S,.bool false] 100)).alloc (.cells #[.int .i64 0,.string ⟨#[]⟩,.string ⟨#[]⟩,.slice none 0 0,.slice none 0 0] 39)) (w.heap.size+1) s0:=by
  unfold RdB;rw [←hs0,←hS];exact hC
 clear h1 h2 h3 hC hs0 hs hS
 go_enter Tryz.func23,Tryz.ntmps23
 go_upto_region 3 with (fail)
 generalize ((w.alloc (.cells #[.int .i64 0,.string ⟨#[]⟩,.string ⟨#[]⟩,.slice none 0 0,.slice none 0 0] 39)).alloc (.cells #[.string S,.bool false] 100)).alloc (.cells #[.int .i64 0,.string ⟨#[]⟩,.string ⟨#[]⟩,.slice none 0 0,.slice none 0 0] 39)=w0 at *;obtain ⟨C,hCe⟩:∃C,w.heap.size+1=C:=⟨_,rfl⟩;obtain ⟨E,hEe⟩:∃E,C+1=E:=⟨_,rfl⟩;obtain ⟨R,hRe⟩:∃R,w.heap.size=R:=⟨_,rfl⟩;rw [hCe] at hCr hE;rw [hEe] at hE;rw [hRe] at hR;rw [hCe,hRe]
 (try rw [hEe])
 have HRW:Hid (w.heap.size=R):=hRe;have hRC:R≠C:=by omega
 have hRE:R≠E:=by omega
 have hCE:C≠E:=by omega
 have hRC1:R<C:=by omega
 have hRE1:R<E:=by omega
 have HC0:=lH hCr;have HE0:=lH hE;have HR0:=lH hR;clear hCr hE hR hCe hEe hRe;have hr11:=(zAr 1099511627776 s0).1;have HCA:=lH (zBk C s0.1 s0.2 1099511627776 w0 HC0.o (by omega) (by omega));rw [show ((s0.1,s0.2):St)=s0 from rfl] at HCA;obtain ⟨p11,hp11⟩:∃p,rdN 1099511627776 s0=p:=⟨_,rfl⟩;rw [hp11] at HCA hr11 HPE;obtain ⟨ka,s11⟩:=p11;have hl11:s11.1.length≤1000000:=Nat.le_trans hr11 (by omega);simp only at HCA HPE
 clear hp11 hr11;go_wp2_with (fail)
 refine HCA.o.mono ?_;rintro e w11 ⟨rfl,hc11,hm11⟩;have HC11':=lH hc11;have HE11':=lH (CBox.mod HE0.o hm11 (zAf (Ne.symm hCE)));have HR11':=lH (CBox.mod HR0.o hm11 (zAf hRC));have HB11':=lH (HB0.o.trans (hm11.upto HB0.o.size (fun g hg=>by rw [List.mem_singleton.1 hg,HRW.o];omega)));clear HCA hc11 hm11 HC0 HE0 HR0 HB0;have x0:=HE11'.o.cell (i:=0) (v:=.int .i64 0) rfl;have xf0:=HE11'.o.frozen 0;have xl:=HE11'.o.lt;go_upto_region 4 with (fail)
 clear x0 xf0 xl;have hE11:CBox (w11.setCell ⟨E,0,none⟩ (.int .i64 ka)) E 39 #[.int .i64 ka,.string ⟨#[]⟩,.string ⟨#[]⟩,.slice none 0 0,.slice none 0 0]:=HE11'.o.set 0 _;have hM11:Mod [E] w11 (w11.setCell ⟨E,0,none⟩ (.int .i64 ka)):=(Mod.refl [E] w11).setCell (p:=⟨E,0,none⟩) (List.mem_singleton.2 rfl) _;generalize World.setCell _ ⟨E,0,none⟩ _=v11 at *;have HE11:=lH hE11;have HC11:=lH (HC11'.o.mod hM11 (zAf hCE));have HR11:=lH (CBox.mod HR11'.o hM11 (zAf hRE))
 have HB11:=lH (HB11'.o.trans (hM11.upto HB11'.o.size (fun g hg=>by rw [List.mem_singleton.1 hg,HRW.o];omega)));clear hE11 hM11 HE11' HC11' HR11' HB11';have hr12:=(zBj s11).1;have HCA:=lH (zEh C s11.1 s11.2 v11 HC11.o (by omega));rw [show ((s11.1,s11.2):St)=s11 from rfl] at HCA;obtain ⟨p12,hp12⟩:∃p,rdT s11=p:=⟨_,rfl⟩;rw [hp12] at HCA hr12 HPE;obtain ⟨tb,s12⟩:=p12;have hl12:s12.1.length≤1000000:=Nat.le_trans hr12 (by omega);simp only at HCA HPE
 clear hp12 hr12;go_wp2_with (fail)
 refine HCA.o.mono ?_;rintro e w12 ⟨rfl,hc12,hm12⟩;have HC12':=lH hc12;have HE12':=lH (CBox.mod HE11.o hm12 (zAf (Ne.symm hCE)));have HR12':=lH (CBox.mod HR11.o hm12 (zAf hRC));have HB12':=lH (HB11.o.trans (hm12.upto HB11.o.size (fun g hg=>by rw [List.mem_singleton.1 hg,HRW.o];omega)));clear HCA hc12 hm12 HC11 HE11 HR11 HB11;have x1:=HE12'.o.cell (i:=1) (v:=.string ⟨#[]⟩) rfl;have xf1:=HE12'.o.frozen 1;have xl:=HE12'.o.lt;go_upto_region 5 with (fail)
 clear x1 xf1 xl;have hE12:CBox (w12.setCell ⟨E,1,none⟩ (.string tb)) E 39 #[.int .i64 ka,.string tb,.string ⟨#[]⟩,.slice none 0 0,.slice none 0 0]:=HE12'.o.set 1 _;have hM12:Mod [E] w12 (w12.setCell ⟨E,1,none⟩ (.string tb)):=(Mod.refl [E] w12).setCell (p:=⟨E,1,none⟩) (List.mem_singleton.2 rfl) _;generalize World.setCell _ ⟨E,1,none⟩ _=v12 at *;have HE12:=lH hE12;have HC12:=lH (HC12'.o.mod hM12 (zAf hCE));have HR12:=lH (CBox.mod HR12'.o hM12 (zAf hRE))
 have HB12:=lH (HB12'.o.trans (hM12.upto HB12'.o.size (fun g hg=>by rw [List.mem_singleton.1 hg,HRW.o];omega)));clear hE12 hM12 HE12' HC12' HR12' HB12';have hr13:=(zBj s12).1;have HCA:=lH (zEh C s12.1 s12.2 v12 HC12.o (by omega));rw [show ((s12.1,s12.2):St)=s12 from rfl] at HCA;obtain ⟨p13,hp13⟩:∃p,rdT s12=p:=⟨_,rfl⟩;rw [hp13] at HCA hr13 HPE;obtain ⟨tc,s13⟩:=p13;have hl13:s13.1.length≤1000000:=Nat.le_trans hr13 (by omega);simp only at HCA HPE
 clear hp13 hr13;go_wp2_with (fail)
 refine HCA.o.mono ?_;rintro e w13 ⟨rfl,hc13,hm13⟩;have HC13':=lH hc13;have HE13':=lH (CBox.mod HE12.o hm13 (zAf (Ne.symm hCE)));have HR13':=lH (CBox.mod HR12.o hm13 (zAf hRC));have HB13':=lH (HB12.o.trans (hm13.upto HB12.o.size (fun g hg=>by rw [List.mem_singleton.1 hg,HRW.o];omega)));clear HCA hc13 hm13 HC12 HE12 HR12 HB12;have x2:=HE13'.o.cell (i:=2) (v:=.string ⟨#[]⟩) rfl;have xf2:=HE13'.o.frozen 2;have xl:=HE13'.o.lt;go_upto_region 6 with (fail)
 clear x2 xf2 xl;have hE13:CBox (w13.setCell ⟨E,2,none⟩ (.string tc)) E 39 #[.int .i64 ka,.string tb,.string tc,.slice none 0 0,.slice none 0 0]:=HE13'.o.set 2 _;have hM13:Mod [E] w13 (w13.setCell ⟨E,2,none⟩ (.string tc)):=(Mod.refl [E] w13).setCell (p:=⟨E,2,none⟩) (List.mem_singleton.2 rfl) _;generalize World.setCell _ ⟨E,2,none⟩ _=v13 at *;have HE13:=lH hE13;have HC13:=lH (HC13'.o.mod hM13 (zAf hCE));have HR13:=lH (CBox.mod HR13'.o hM13 (zAf hRE))
 have HB13:=lH (HB13'.o.trans (hM13.upto HB13'.o.size (fun g hg=>by rw [List.mem_singleton.1 hg,HRW.o];omega)));clear hE13 hM13 HE13' HC13' HR13' HB13';have hr14:=(zGb s13 hl13).2.2
 have hX14:∀k∈[R,C,E],k<v13.heap.size:=by
  intro k hk;simp only [List.mem_cons,List.not_mem_nil,or_false] at hk
  rcases hk with rfl|rfl|rfl
  ·exact HR13.o.lt
  ·exact HC13.o.lt
  ·exact HE13.o.lt
 have HCA:=lH (zLg C s13 [R,C,E] v13 HC13.o (by omega) hX14 (by simp));clear hX14;obtain ⟨p14,hp14⟩:∃p,rdDs s13=p:=⟨_,rfl⟩;rw [hp14] at HCA hr14 HPE;obtain ⟨lo,s14⟩:=p14;have hl14:s14.1.length≤1000000:=Nat.le_trans hr14 (by omega);simp only at HCA HPE
 clear hp14 hr14;go_wp2_with (fail)
 refine HCA.o.mono ?_;rintro e w14 ⟨vlo,clo,rfl,hc14,hm14,hd14,hf14,hg14⟩;have HC14':=lH hc14;have HE14':=lH (CBox.mod HE13.o hm14 (zAf (Ne.symm hCE)));have HR14':=lH (CBox.mod HR13.o hm14 (zAf hRC));have HB14':=lH (HB13.o.trans (hm14.upto HB13.o.size (fun g hg=>by rw [List.mem_singleton.1 hg,HRW.o];omega)));have HDlo:=lH hd14;have HFlo:Hid (lo.length≤clo∧clo≤9223372036854775807):=⟨hf14,hg14⟩;clear hd14 hf14 hg14;clear HCA hc14 hm14 HC13 HE13 HR13 HB13;have x3:=HE14'.o.cell (i:=3) (v:=.slice none 0 0) rfl
 have xf3:=HE14'.o.frozen 3;have xl:=HE14'.o.lt;go_upto_region 7 with (fail)
 clear x3 xf3 xl;have hE14:CBox (w14.setCell ⟨E,3,none⟩ (.slice vlo lo.length clo)) E 39 #[.int .i64 ka,.string tb,.string tc,.slice vlo lo.length clo,.slice none 0 0]:=HE14'.o.set 3 _;have hM14:Mod [E] w14 (w14.setCell ⟨E,3,none⟩ (.slice vlo lo.length clo)):=(Mod.refl [E] w14).setCell (p:=⟨E,3,none⟩) (List.mem_singleton.2 rfl) _;generalize World.setCell _ ⟨E,3,none⟩ _=v14 at *;have HE14:=lH hE14;have HC14:=lH (HC14'.o.mod hM14 (zAf hCE));have HR14:=lH (CBox.mod HR14'.o hM14 (zAf hRE))
 have HB14:=lH (HB14'.o.trans (hM14.upto HB14'.o.size (fun g hg=>by rw [List.mem_singleton.1 hg,HRW.o];omega)));replace HDlo:=lH (HDlo.o.mod (hM14.mono (fun k hk=>by rw [List.mem_singleton.1 hk];simp)));clear hE14 hM14 HE14' HC14' HR14' HB14';have hr15:=(zGb s14 hl14).2.2
 have hX15:∀k∈[R,C,E],k<v14.heap.size:=by
  intro k hk;simp only [List.mem_cons,List.not_mem_nil,or_false] at hk
  rcases hk with rfl|rfl|rfl
  ·exact HR14.o.lt
  ·exact HC14.o.lt
  ·exact HE14.o.lt
 have HCA:=lH (zLg C s14 [R,C,E] v14 HC14.o (by omega) hX15 (by simp));clear hX15;obtain ⟨p15,hp15⟩:∃p,rdDs s14=p:=⟨_,rfl⟩;rw [hp15] at HCA hr15 HPE;obtain ⟨lf,s15⟩:=p15;have hl15:s15.1.length≤1000000:=Nat.le_trans hr15 (by omega);simp only at HCA HPE
 clear hp15 hr15;go_wp2_with (fail)
 refine HCA.o.mono ?_;rintro e w15 ⟨vlf,clf,rfl,hc15,hm15,hd15,hf15,hg15⟩;have HC15':=lH hc15;have HE15':=lH (CBox.mod HE14.o hm15 (zAf (Ne.symm hCE)));have HR15':=lH (CBox.mod HR14.o hm15 (zAf hRC));have HB15':=lH (HB14.o.trans (hm15.upto HB14.o.size (fun g hg=>by rw [List.mem_singleton.1 hg,HRW.o];omega)));have HDlf:=lH hd15;have HFlf:Hid (lf.length≤clf∧clf≤9223372036854775807):=⟨hf15,hg15⟩;clear hd15 hf15 hg15;replace HDlo:=lH (HDlo.o.mod (hm15.mono (fun k hk=>by rw [List.mem_singleton.1 hk];simp)))
 clear HCA hc15 hm15 HC14 HE14 HR14 HB14;have x4:=HE15'.o.cell (i:=4) (v:=.slice none 0 0) rfl;have xf4:=HE15'.o.frozen 4;have xl:=HE15'.o.lt;go_upto_region 8 with (fail)
 clear x4 xf4 xl;have hE15:CBox (w15.setCell ⟨E,4,none⟩ (.slice vlf lf.length clf)) E 39 #[.int .i64 ka,.string tb,.string tc,.slice vlo lo.length clo,.slice vlf lf.length clf]:=HE15'.o.set 4 _;have hM15:Mod [E] w15 (w15.setCell ⟨E,4,none⟩ (.slice vlf lf.length clf)):=(Mod.refl [E] w15).setCell (p:=⟨E,4,none⟩) (List.mem_singleton.2 rfl) _;generalize World.setCell _ ⟨E,4,none⟩ _=v15 at *;have HE15:=lH hE15;have HC15:=lH (HC15'.o.mod hM15 (zAf hCE));have HR15:=lH (CBox.mod HR15'.o hM15 (zAf hRE))
 have HB15:=lH (HB15'.o.trans (hM15.upto HB15'.o.size (fun g hg=>by rw [List.mem_singleton.1 hg,HRW.o];omega)));replace HDlo:=lH (HDlo.o.mod (hM15.mono (fun k hk=>by rw [List.mem_singleton.1 hk];simp)));replace HDlf:=lH (HDlf.o.mod (hM15.mono (fun k hk=>by rw [List.mem_singleton.1 hk];simp)));clear hE15 hM15 HE15' HC15' HR15' HB15';have HPE2:Hid (P=((⟨ka,tb,tc,lo,lf⟩:OEdit),s15)):=HPE;clear HPE;have HP:=HPE2.o;subst HP;clear HPE2;simp only at HSM HD0 HD1 HD2
 obtain ⟨l,bd⟩:=s15;have k1:=HC15.o.cell (i:=1) (v:=.bool bd) rfl;have k0:=HC15.o.cell (i:=0) (v:=.string ⟨l.toArray⟩) rfl;have kl:=HC15.o.lt;simp only at HD0 HD1 HD2
 by_cases hz:bd=true∨l≠[]
 ·have HRx:=HR15
  have HBx:=HB15;have HQ:Hid (Q=(zeroE,13)):=HD0.o hz;clear HD0 HD1 HD2;have a0:=HRx.o.cell (i:=0) (v:=.int .i64 0) rfl;have b0:=HRx.o.frozen 0;have a1:=HRx.o.cell (i:=1) (v:=.string ⟨#[]⟩) rfl;have b1:=HRx.o.frozen 1;have a2:=HRx.o.cell (i:=2) (v:=.string ⟨#[]⟩) rfl;have b2:=HRx.o.frozen 2;have a3:=HRx.o.cell (i:=3) (v:=.slice none 0 0) rfl;have b3:=HRx.o.frozen 3;have a4:=HRx.o.cell (i:=4) (v:=.slice none 0 0) rfl;have b4:=HRx.o.frozen 4;have al:=HRx.o.lt
  cases bd with
  | true=>
   clear hz k0;go_wp2;obtain ⟨hp1,hp2⟩:=CBox.fives HRx.o (.int .i64 0) (.string ⟨#[]⟩) (.string ⟨#[]⟩) (.slice none 0 0) (.slice none 0 0);have r0:=hp1.cell (i:=0) (v:=.int .i64 0) rfl;have r1:=hp1.cell (i:=1) (v:=.string ⟨#[]⟩) rfl;have r2:=hp1.cell (i:=2) (v:=.string ⟨#[]⟩) rfl;have r3:=hp1.cell (i:=3) (v:=.slice none 0 0) rfl;have r4:=hp1.cell (i:=4) (v:=.slice none 0 0) rfl;refine bodyPost_ret (by simp [results,Tryz.results23,go_sem,r0,r1,r2,r3,r4];try rfl) rfl ?_
   have hbe:=HBx.o.trans (hp2.upto HBx.o.size (fun g hg=>by rw [List.mem_singleton.1 hg,HRW.o];omega));refine ⟨none,0,none,0,?_,?_,hbe⟩
   ·rw [HQ.o];rfl
   ·rw [HQ.o];exact zDe _
  | false=>
   have hne:l≠[]:=by rcases hz with h|h;cases h;exact h
   obtain ⟨t,ht⟩:∃t:ByteArray,t=⟨l.toArray⟩:=⟨_,rfl⟩
   have hte:(t.toList==([]:List UInt8))=false:=by
    rw [tl,ht]
    cases l with
    | nil=>exact absurd rfl hne
    | cons a r=>rfl
   rw [←ht] at k0;clear ht hne hz;go_wp2;obtain ⟨hp1,hp2⟩:=CBox.fives HRx.o (.int .i64 0) (.string ⟨#[]⟩) (.string ⟨#[]⟩) (.slice none 0 0) (.slice none 0 0);have r0:=hp1.cell (i:=0) (v:=.int .i64 0) rfl;have r1:=hp1.cell (i:=1) (v:=.string ⟨#[]⟩) rfl;have r2:=hp1.cell (i:=2) (v:=.string ⟨#[]⟩) rfl;have r3:=hp1.cell (i:=3) (v:=.slice none 0 0) rfl;have r4:=hp1.cell (i:=4) (v:=.slice none 0 0) rfl;refine bodyPost_ret (by simp [results,Tryz.results23,go_sem,r0,r1,r2,r3,r4];try rfl) rfl ?_
   have hbe:=HBx.o.trans (hp2.upto HBx.o.size (fun g hg=>by rw [List.mem_singleton.1 hg,HRW.o];omega));refine ⟨none,0,none,0,?_,?_,hbe⟩
   ·rw [HQ.o];rfl
   ·rw [HQ.o];exact zDe _
 ·have hbd:bd=false:=by cases bd with|true=>exact absurd (.inl rfl) hz|false=>rfl
  have hln:l=[]:=by cases l with|nil=>rfl|cons a r=>exact absurd (.inr (by simp)) hz
  subst hbd;subst hln;have hE1:=HD1.o rfl rfl;have hE2:=HD2.o rfl rfl;clear HD0 HD1 HD2 hz;have HD1:=lH hE1;have HD2:=lH hE2;clear hE1 hE2;have hte:((⟨#[]⟩:ByteArray).toList==([]:List UInt8))=true:=by rw [tl];rfl
  have HED:Hid (EditIn v15 ⟨ka,tb,tc,lo,lf⟩ vlo clo vlf clf):=⟨HDlo.o.free,HDlf.o.free,HFlo.o.1,HFlo.o.2,HFlf.o.1,HFlf.o.2⟩;have HCA:=zWm ⟨ka,tb,tc,lo,lf⟩ vlo clo vlf clf v15 HED.o HSM.o;have HEX:=HES.o ⟨ka,tb,tc,lo,lf⟩
  have HZE:Hid (∀ex:ByteArray,(editErr ⟨ka,tb,tc,lo,lf⟩=0→ex=⟨(encE ⟨ka,tb,tc,lo,lf⟩).toArray⟩)→editErr ⟨ka,tb,tc,lo,lf⟩=0→(ex.toList==S.toList)=false→Q=(zeroE,13)):=fun ex h1 h2 h3=>HD2.o (fun ⟨_,h⟩=>by
   rw [h1 h2,HSS.o,h] at h3
   simp at h3)
  have HZS:Hid (∀ex:ByteArray,(editErr ⟨ka,tb,tc,lo,lf⟩=0→ex=⟨(encE ⟨ka,tb,tc,lo,lf⟩).toArray⟩)→editErr ⟨ka,tb,tc,lo,lf⟩=0→(ex.toList==S.toList)=true→Q=(⟨ka,tb,tc,lo,lf⟩,0)):=fun ex h1 h2 h3=>HD1.o h2 (by
   have h4:=eq_of_beq h3;rw [h1 h2,HSS.o,tl,tl] at h4
   simpa using h4)
  have HZN:Hid (editErr ⟨ka,tb,tc,lo,lf⟩≠0→Q=(zeroE,13)):=fun h=>HD2.o (fun ⟨h1,_⟩=>h h1);unfold editV at HCA;simp only at HCA
  replace HEX:=lH HEX;replace HCA:=lH HCA;generalize encS ⟨ka,tb,tc,lo,lf⟩=ex at *;generalize editErr ⟨ka,tb,tc,lo,lf⟩=er at *;clear HD1 HD2 HES HSS HSM HED;have e0:=HE15.o.cell (i:=0) (v:=.int .i64 ka) rfl;have e1:=HE15.o.cell (i:=1) (v:=.string tb) rfl;have e2:=HE15.o.cell (i:=2) (v:=.string tc) rfl;have e3:=HE15.o.cell (i:=3) (v:=.slice vlo lo.length clo) rfl;have e4:=HE15.o.cell (i:=4) (v:=.slice vlf lf.length clf) rfl;have el:=HE15.o.lt;go_wp2_with (fail)
  refine HCA.o.mono ?_;rintro e v16 ⟨rfl,hb16⟩;clear HCA k0 k1 kl e0 e1 e2 e3 e4 el;have HRx:=lH (CBox.below HR15.o hb16);have HEx:=lH (CBox.below HE15.o hb16);have HBx:=lH (zA HB15.o hb16);replace HDlo:=lH (HDlo.o.below hb16);replace HDlf:=lH (HDlf.o.below hb16);clear hb16 HC15 HR15 HE15 HB15;have a0:=HRx.o.cell (i:=0) (v:=.int .i64 0) rfl;have b0:=HRx.o.frozen 0;have a1:=HRx.o.cell (i:=1) (v:=.string ⟨#[]⟩) rfl;have b1:=HRx.o.frozen 1;have a2:=HRx.o.cell (i:=2) (v:=.string ⟨#[]⟩) rfl;have b2:=HRx.o.frozen 2
  have a3:=HRx.o.cell (i:=3) (v:=.slice none 0 0) rfl;have b3:=HRx.o.frozen 3;have a4:=HRx.o.cell (i:=4) (v:=.slice none 0 0) rfl;have b4:=HRx.o.frozen 4;have al:=HRx.o.lt
  by_cases h0:er=0
  ·have q1:(er != 0)=false:=by rw [h0];rfl
   cases hx:(ex.toList==S.toList) with
   | false=>
    have HQ:=lH (HZE.o ex HEX.o h0 hx);clear HZE HZS HZN HEX HEx;go_wp2;obtain ⟨hp1,hp2⟩:=CBox.fives HRx.o (.int .i64 0) (.string ⟨#[]⟩) (.string ⟨#[]⟩) (.slice none 0 0) (.slice none 0 0);have r0:=hp1.cell (i:=0) (v:=.int .i64 0) rfl;have r1:=hp1.cell (i:=1) (v:=.string ⟨#[]⟩) rfl;have r2:=hp1.cell (i:=2) (v:=.string ⟨#[]⟩) rfl;have r3:=hp1.cell (i:=3) (v:=.slice none 0 0) rfl;have r4:=hp1.cell (i:=4) (v:=.slice none 0 0) rfl;refine bodyPost_ret (by simp [results,Tryz.results23,go_sem,r0,r1,r2,r3,r4];try rfl) rfl ?_
    have hbe:=HBx.o.trans (hp2.upto HBx.o.size (fun g hg=>by rw [List.mem_singleton.1 hg,HRW.o];omega));refine ⟨none,0,none,0,?_,?_,hbe⟩
    ·rw [HQ.o];rfl
    ·rw [HQ.o];exact zDe _
   | true=>
    have HQ:=lH (HZS.o ex HEX.o h0 hx);clear HZE HZS HZN HEX;have e0:=HEx.o.cell (i:=0) (v:=.int .i64 ka) rfl;have e1:=HEx.o.cell (i:=1) (v:=.string tb) rfl;have e2:=HEx.o.cell (i:=2) (v:=.string tc) rfl;have e3:=HEx.o.cell (i:=3) (v:=.slice vlo lo.length clo) rfl;have e4:=HEx.o.cell (i:=4) (v:=.slice vlf lf.length clf) rfl;have el:=HEx.o.lt;go_wp2;obtain ⟨hp1,hp2⟩:=CBox.fives HRx.o (.int .i64 ka) (.string tb) (.string tc) (.slice vlo lo.length clo) (.slice vlf lf.length clf)
    have r0:=hp1.cell (i:=0) (v:=.int .i64 ka) rfl;have r1:=hp1.cell (i:=1) (v:=.string tb) rfl;have r2:=hp1.cell (i:=2) (v:=.string tc) rfl;have r3:=hp1.cell (i:=3) (v:=.slice vlo lo.length clo) rfl;have r4:=hp1.cell (i:=4) (v:=.slice vlf lf.length clf) rfl;refine bodyPost_ret (by simp [results,Tryz.results23,go_sem,r0,r1,r2,r3,r4];try rfl) rfl ?_;have hbe:=HBx.o.trans (hp2.upto HBx.o.size (fun g hg=>by rw [List.mem_singleton.1 hg,HRW.o];omega));refine ⟨vlo,clo,vlf,clf,?_,?_,hbe⟩
    ·rw [HQ.o];rfl
    ·rw [HQ.o]
     exact ⟨(HDlo.o.mod (hp2.mono (fun k hk=>by rw [List.mem_singleton.1 hk];simp))).free,(HDlf.o.mod (hp2.mono (fun k hk=>by rw [List.mem_singleton.1 hk];simp))).free,HFlo.o.1,HFlo.o.2,HFlf.o.1,HFlf.o.2⟩
  ·have q1:(er != 0)=true:=by simp [h0]
   have HQ:=lH (HZN.o h0);clear HZE HZS HZN HEX HEx h0
   cases hx:(ex.toList==S.toList) with
   | false=>
    go_wp2;obtain ⟨hp1,hp2⟩:=CBox.fives HRx.o (.int .i64 0) (.string ⟨#[]⟩) (.string ⟨#[]⟩) (.slice none 0 0) (.slice none 0 0);have r0:=hp1.cell (i:=0) (v:=.int .i64 0) rfl;have r1:=hp1.cell (i:=1) (v:=.string ⟨#[]⟩) rfl;have r2:=hp1.cell (i:=2) (v:=.string ⟨#[]⟩) rfl;have r3:=hp1.cell (i:=3) (v:=.slice none 0 0) rfl;have r4:=hp1.cell (i:=4) (v:=.slice none 0 0) rfl;refine bodyPost_ret (by simp [results,Tryz.results23,go_sem,r0,r1,r2,r3,r4];try rfl) rfl ?_
    have hbe:=HBx.o.trans (hp2.upto HBx.o.size (fun g hg=>by rw [List.mem_singleton.1 hg,HRW.o];omega));refine ⟨none,0,none,0,?_,?_,hbe⟩
    ·rw [HQ.o];rfl
    ·rw [HQ.o];exact zDe _
   | true=>
    go_wp2;obtain ⟨hp1,hp2⟩:=CBox.fives HRx.o (.int .i64 0) (.string ⟨#[]⟩) (.string ⟨#[]⟩) (.slice none 0 0) (.slice none 0 0);have r0:=hp1.cell (i:=0) (v:=.int .i64 0) rfl;have r1:=hp1.cell (i:=1) (v:=.string ⟨#[]⟩) rfl;have r2:=hp1.cell (i:=2) (v:=.string ⟨#[]⟩) rfl;have r3:=hp1.cell (i:=3) (v:=.slice none 0 0) rfl;have r4:=hp1.cell (i:=4) (v:=.slice none 0 0) rfl;refine bodyPost_ret (by simp [results,Tryz.results23,go_sem,r0,r1,r2,r3,r4];try rfl) rfl ?_
    have hbe:=HBx.o.trans (hp2.upto HBx.o.size (fun g hg=>by rw [List.mem_singleton.1 hg,HRW.o];omega));refine ⟨none,0,none,0,?_,?_,hbe⟩
    ·rw [HQ.o];rfl
    ·rw [HQ.o];exact zDe _
end Go.Proofs.YtfkjfdbjhlmjcaaGreatDoor

/- syntax.name, checkNumbers; the reference's Reserved, Name, ranged of chapter 21. -/
import Derived.Test.YtfkjfdbjhlmjcaaGreatDoorXTA
set_option maxRecDepth 100000
set_option maxHeartbeats 16000000
namespace Go.Proofs.YtfkjfdbjhlmjcaaGreatDoor
open Go.RowKit
theorem zEn {s:ByteArray} {l:List UInt8} (h:s.data.toList=l):s=⟨l.toArray⟩:=by
 subst h;rfl
theorem zVd {s:ByteArray} (h:resB s=true):∃l∈resL,s=⟨l.toArray⟩:=by
 unfold resB at h;obtain ⟨l,hl,he⟩:=List.any_eq_true.1 h;exact ⟨l,hl,zEn (by simpa using he)⟩
theorem zVe {s:ByteArray} (h:resB s=false):∀l∈resL,(s.toList==l)=false:=by
 intro l hl;unfold resB at h;have:=List.any_eq_false.1 h l hl;rw [tl];simpa using this
theorem yDl {s:ByteArray} (h:resB s=true):nmS s=false:=by rw [nmS,h];simp
theorem zCb (s:ByteArray) (w:World) (hs:s.size≤40000):Calls Tryz.prog 203 #[.string s] w fun e w'=>e=.returned (.bool (nmS s))∧Bw w w':=by
 cases hr:resB s with
 | true=>
  have HN:=lH (yDl hr);obtain ⟨l,hl,rfl⟩:=zVd hr;clear hr hs;simp only [resL,List.mem_cons,List.not_mem_nil,or_false] at hl
  rcases hl with rfl|rfl|rfl|rfl|rfl|rfl|rfl|rfl|rfl|rfl|rfl|rfl|rfl|rfl|rfl|rfl|rfl
  all_goals
   go_enter Tryz.func203,Tryz.ntmps203
   go_wp2;go_ret;exact ⟨zAb (by rw [HN.o]),zAl _⟩
 | false=>
  have HN:Hid (nmS s=wordS 24 s):=by show _=_;rw [nmS,hr];simp
  have hf:=zVe hr;clear hr;have q0:=hf [99,97,115,101] (by simp [resL]);have q1:=hf [99,104,97,110,99,101] (by simp [resL]);have q2:=hf [99,111,110,102,108,105,99,116] (by simp [resL]);have q3:=hf [101,108,115,101] (by simp [resL]);have q4:=hf [102,97,108,115,101] (by simp [resL]);have q5:=hf [102,108,97,107,121] (by simp [resL]);have q6:=hf [102,117,110] (by simp [resL]);have q7:=hf [105,102] (by simp [resL]);have q8:=hf [105,110] (by simp [resL]);have q9:=hf [108,101,116] (by simp [resL])
  have q10:=hf [110,105,108] (by simp [resL]);have q11:=hf [111,102] (by simp [resL]);have q12:=hf [112,117,98] (by simp [resL]);have q13:=hf [116,101,115,116] (by simp [resL]);have q14:=hf [116,104,101,110] (by simp [resL]);have q15:=hf [116,114,117,101] (by simp [resL]);have q16:=hf [117,115,101] (by simp [resL]);clear hf
  go_enter Tryz.func203,Tryz.ntmps203
  go_wp2_with (go_at_call 150;refine (zNp s _ hs).mono ?_;rintro e w' ⟨rfl,hb⟩)
  go_ret;exact ⟨zAb (by rw [HN.o]),hb⟩
def resStrs:List ByteArray:=resL.map fun l=>⟨l.toArray⟩
theorem yAw (s:ByteArray):memS s resStrs=resB s:=by
 unfold memS resStrs resB;rw [List.any_map];rfl
theorem zPl (w:World):Calls Tryz.prog 192 #[] w fun e w'=>∃v,e=.returned v∧Strs w' v resStrs∧Bw w w':=by
 go_enter Tryz.func192,Tryz.ntmps192
 go_wp2;go_ret;refine ⟨_,rfl,?_,zAa _ _⟩;refine ⟨rfl,_,17,rfl,Nat.le_refl _,by unfold maxLen;omega,fun _=>⟨w.heap.size,0,rfl,by simp,fun j u hj=>?_⟩⟩;have:=(CBox.new w 9 (resStrs.map Value.string).toArray).cell (i:=j) (v:=u) (by simpa using hj);rw [Nat.zero_add];exact this
theorem zXm (s:ByteArray) (w:World) (hs:s.size≤40000):Calls Tryz.prog 191 #[.string s] w fun e w'=>e=.returned (.bool (wordS 24 s))∧Bw w w':=by
 go_enter Tryz.func191,Tryz.ntmps191
 go_wp2_with (go_at_call 161;refine (zGu s 24 _ hs (by decide)).mono ?_;rintro e w' ⟨rfl,rfl⟩)
 go_ret;exact ⟨rfl,zAl _⟩
theorem zCj (s:ByteArray) (w:World) (hs:s.size≤40000):Calls Tryz.prog 162 #[.string s] w fun e w'=>e=.returned (.bool (nmS s))∧Bw w w':=by
 have HW:=lH (fun w=>zXm s w hs);have HN:Hid (nmS s=(wordS 24 s && !(resB s))):=rfl
 cases hw:wordS 24 s with
 | false=>
  rw [hw] at HW
  go_enter Tryz.func162,Tryz.ntmps162
  go_wp2_with (fail)
  refine (HW.o _).mono ?_;rintro e w1 ⟨rfl,hb1⟩;go_wp2;go_ret;exact ⟨zAb (by rw [HN.o,hw];rfl),hb1⟩
 | true=>
  rw [hw] at HW;have HR:=lH (yAw s);have hl:resStrs.length≤40000:=by decide
  go_enter Tryz.func162,Tryz.ntmps162
  go_wp2_with (fail)
  refine (HW.o _).mono ?_;rintro e w1 ⟨rfl,hb1⟩;go_wp2_with (fail)
  refine (zPl _).mono ?_;rintro e w2 ⟨v,rfl,hv,hb2⟩;have HV:=lH hv;clear hv;go_wp2_with (fail)
  refine (zNm _ s resStrs _ HV.o hl).mono ?_;rintro e w3 ⟨rfl,rfl⟩;rw [HR.o];go_wp2;go_ret;exact ⟨zAb (by rw [HN.o,hw];rfl),zA hb1 hb2⟩
def numsR (k i d:Int):Bool:=
 if k=1 then decide (-999999999≤i) && decide (i≤999999999) else if k=2 then i==0 || i==1
 else if k=5 then decide (1≤i) && decide (i≤999999) else if k=14 then decide (1≤d) && decide (d≤999999) && decide (0≤i) && decide (i≤d) else true
def numsE (k i d:Int):Int:=if numsR k i d then 0 else 2
theorem zXn (x:Ex):numsOk x=numsR x.kind x.num x.den:=rfl
theorem zJa (k i d:Int) (n m:ByteArray) (sv:Value) (w:World) :
  Calls Tryz.prog 208 #[.agg #[.int .i64 k,.string n,.string m,.int .i64 i,.int .i64 d,sv]] w fun e w'=>e=.returned (.int .i64 (numsE k i d))∧Bw w w':=by
 by_cases k1:k=1
 ·subst k1
  by_cases h0:-999999999≤i
  ·skip
   by_cases h1:i≤999999999
   ·skip
    have HN:Hid (numsE 1 i d=0):=by show _=_;simp [numsE,numsR,h0,h1]
    go_enter Tryz.func208,Tryz.ntmps208
    go_wp2;go_ret;exact ⟨zAc (by rw [HN.o]),zAa _ _⟩
   ·skip
    have HN:Hid (numsE 1 i d=2):=by show _=_;simp [numsE,numsR,h0,h1]
    go_enter Tryz.func208,Tryz.ntmps208
    go_wp2;go_ret;exact ⟨zAc (by rw [HN.o]),zAa _ _⟩
  ·skip
   have HN:Hid (numsE 1 i d=2):=by show _=_;simp [numsE,numsR,h0]
   go_enter Tryz.func208,Tryz.ntmps208
   go_wp2;go_ret;exact ⟨zAc (by rw [HN.o]),zAa _ _⟩
 by_cases k2:k=2
 ·subst k2
  by_cases h0:i=0
  ·skip
   have HN:Hid (numsE 2 i d=0):=by show _=_;simp [numsE,numsR,h0]
   have g0:(i==0)=true:=by simp [h0]
   go_enter Tryz.func208,Tryz.ntmps208
   go_wp2;go_ret;exact ⟨zAc (by rw [HN.o]),zAa _ _⟩
  ·skip
   by_cases h1:i=1
   ·skip
    have HN:Hid (numsE 2 i d=0):=by show _=_;simp [numsE,numsR,h1]
    have g0:(i==0)=false:=by simp [h0]
    have g1:(i==1)=true:=by simp [h1]
    go_enter Tryz.func208,Tryz.ntmps208
    go_wp2;go_ret;exact ⟨zAc (by rw [HN.o]),zAa _ _⟩
   ·skip
    have HN:Hid (numsE 2 i d=2):=by show _=_;simp [numsE,numsR,h0,h1]
    have g0:(i==0)=false:=by simp [h0]
    have g1:(i==1)=false:=by simp [h1]
    go_enter Tryz.func208,Tryz.ntmps208
    go_wp2;go_ret;exact ⟨zAc (by rw [HN.o]),zAa _ _⟩
 by_cases k5:k=5
 ·subst k5
  by_cases h0:1≤i
  ·skip
   by_cases h1:i≤999999
   ·skip
    have HN:Hid (numsE 5 i d=0):=by show _=_;simp [numsE,numsR,h0,h1]
    go_enter Tryz.func208,Tryz.ntmps208
    go_wp2;go_ret;exact ⟨zAc (by rw [HN.o]),zAa _ _⟩
   ·skip
    have HN:Hid (numsE 5 i d=2):=by show _=_;simp [numsE,numsR,h0,h1]
    go_enter Tryz.func208,Tryz.ntmps208
    go_wp2;go_ret;exact ⟨zAc (by rw [HN.o]),zAa _ _⟩
  ·skip
   have HN:Hid (numsE 5 i d=2):=by show _=_;simp [numsE,numsR,h0]
   go_enter Tryz.func208,Tryz.ntmps208
   go_wp2;go_ret;exact ⟨zAc (by rw [HN.o]),zAa _ _⟩
 by_cases k14:k=14
 ·subst k14
  by_cases h0:1≤d
  ·skip
   by_cases h1:d≤999999
   ·skip
    by_cases h2:0≤i
    ·skip
     by_cases h3:i≤d
     ·skip
      have HN:Hid (numsE 14 i d=0):=by show _=_;simp [numsE,numsR,h0,h1,h2,h3]
      go_enter Tryz.func208,Tryz.ntmps208
      go_wp2;go_ret;exact ⟨zAc (by rw [HN.o]),zAa _ _⟩
     ·skip
      have HN:Hid (numsE 14 i d=2):=by show _=_;simp [numsE,numsR,h0,h1,h2,h3]
      go_enter Tryz.func208,Tryz.ntmps208
      go_wp2;go_ret;exact ⟨zAc (by rw [HN.o]),zAa _ _⟩
    ·skip
     have HN:Hid (numsE 14 i d=2):=by show _=_;simp [numsE,numsR,h0,h1,h2]
     go_enter Tryz.func208,Tryz.ntmps208
     go_wp2;go_ret;exact ⟨zAc (by rw [HN.o]),zAa _ _⟩
   ·skip
    have HN:Hid (numsE 14 i d=2):=by show _=_;simp [numsE,numsR,h0,h1]
    go_enter Tryz.func208,Tryz.ntmps208
    go_wp2;go_ret;exact ⟨zAc (by rw [HN.o]),zAa _ _⟩
  ·skip
   have HN:Hid (numsE 14 i d=2):=by show _=_;simp [numsE,numsR,h0]
   go_enter Tryz.func208,Tryz.ntmps208
   go_wp2;go_ret;exact ⟨zAc (by rw [HN.o]),zAa _ _⟩
 have HN:Hid (numsE k i d=0):=by show _=_;simp [numsE,numsR,k1,k2,k5,k14]
 have q1:(k==1)=false:=by simp [k1]
 have q2:(k==2)=false:=by simp [k2]
 have q5:(k==5)=false:=by simp [k5]
 have q14:(k==14)=false:=by simp [k14]
 clear k1 k2 k5 k14
 go_enter Tryz.func208,Tryz.ntmps208
 go_wp2;go_ret;exact ⟨zAc (by rw [HN.o]),zAa _ _⟩
theorem zVf (k i d:Int) (n m:ByteArray) (sv:Value) (w:World) :
  Calls Tryz.prog 228 #[.agg #[.int .i64 k,.string n,.string m,.int .i64 i,.int .i64 d,sv]] w fun e w'=>e=.returned (.bool (numsR k i d))∧Bw w w':=by
 by_cases k1:k=1
 ·subst k1
  by_cases h0:-999999999≤i
  ·skip
   by_cases h1:i≤999999999
   ·skip
    have HN:Hid (numsR 1 i d=true):=by show _=_;simp [numsR,h0,h1]
    go_enter Tryz.func228,Tryz.ntmps228
    go_wp2;go_ret;exact ⟨zAb (by rw [HN.o]),zAa _ _⟩
   ·skip
    have HN:Hid (numsR 1 i d=false):=by show _=_;simp [numsR,h0,h1]
    go_enter Tryz.func228,Tryz.ntmps228
    go_wp2;go_ret;exact ⟨zAb (by rw [HN.o]),zAa _ _⟩
  ·skip
   have HN:Hid (numsR 1 i d=false):=by show _=_;simp [numsR,h0]
   go_enter Tryz.func228,Tryz.ntmps228
   go_wp2;go_ret;exact ⟨zAb (by rw [HN.o]),zAa _ _⟩
 by_cases k2:k=2
 ·subst k2
  by_cases h0:i=0
  ·skip
   have HN:Hid (numsR 2 i d=true):=by show _=_;simp [numsR,h0]
   have g0:(i==0)=true:=by simp [h0]
   go_enter Tryz.func228,Tryz.ntmps228
   go_wp2;go_ret;exact ⟨zAb (by rw [HN.o]),zAa _ _⟩
  ·skip
   by_cases h1:i=1
   ·skip
    have HN:Hid (numsR 2 i d=true):=by show _=_;simp [numsR,h1]
    have g0:(i==0)=false:=by simp [h0]
    have g1:(i==1)=true:=by simp [h1]
    go_enter Tryz.func228,Tryz.ntmps228
    go_wp2;go_ret;exact ⟨zAb (by rw [HN.o]),zAa _ _⟩
   ·skip
    have HN:Hid (numsR 2 i d=false):=by show _=_;simp [numsR,h0,h1]
    have g0:(i==0)=false:=by simp [h0]
    have g1:(i==1)=false:=by simp [h1]
    go_enter Tryz.func228,Tryz.ntmps228
    go_wp2;go_ret;exact ⟨zAb (by rw [HN.o]),zAa _ _⟩
 by_cases k5:k=5
 ·subst k5
  by_cases h0:1≤i
  ·skip
   by_cases h1:i≤999999
   ·skip
    have HN:Hid (numsR 5 i d=true):=by show _=_;simp [numsR,h0,h1]
    go_enter Tryz.func228,Tryz.ntmps228
    go_wp2;go_ret;exact ⟨zAb (by rw [HN.o]),zAa _ _⟩
   ·skip
    have HN:Hid (numsR 5 i d=false):=by show _=_;simp [numsR,h0,h1]
    go_enter Tryz.func228,Tryz.ntmps228
    go_wp2;go_ret;exact ⟨zAb (by rw [HN.o]),zAa _ _⟩
  ·skip
   have HN:Hid (numsR 5 i d=false):=by show _=_;simp [numsR,h0]
   go_enter Tryz.func228,Tryz.ntmps228
   go_wp2;go_ret;exact ⟨zAb (by rw [HN.o]),zAa _ _⟩
 by_cases k14:k=14
 ·subst k14
  by_cases h0:1≤d
  ·skip
   by_cases h1:d≤999999
   ·skip
    by_cases h2:0≤i
    ·skip
     by_cases h3:i≤d
     ·skip
      have HN:Hid (numsR 14 i d=true):=by show _=_;simp [numsR,h0,h1,h2,h3]
      go_enter Tryz.func228,Tryz.ntmps228
      go_wp2;go_ret;exact ⟨zAb (by rw [HN.o]),zAa _ _⟩
     ·skip
      have HN:Hid (numsR 14 i d=false):=by show _=_;simp [numsR,h0,h1,h2,h3]
      go_enter Tryz.func228,Tryz.ntmps228
      go_wp2;go_ret;exact ⟨zAb (by rw [HN.o]),zAa _ _⟩
    ·skip
     have HN:Hid (numsR 14 i d=false):=by show _=_;simp [numsR,h0,h1,h2]
     go_enter Tryz.func228,Tryz.ntmps228
     go_wp2;go_ret;exact ⟨zAb (by rw [HN.o]),zAa _ _⟩
   ·skip
    have HN:Hid (numsR 14 i d=false):=by show _=_;simp [numsR,h0,h1]
    go_enter Tryz.func228,Tryz.ntmps228
    go_wp2;go_ret;exact ⟨zAb (by rw [HN.o]),zAa _ _⟩
  ·skip
   have HN:Hid (numsR 14 i d=false):=by show _=_;simp [numsR,h0]
   go_enter Tryz.func228,Tryz.ntmps228
   go_wp2;go_ret;exact ⟨zAb (by rw [HN.o]),zAa _ _⟩
 have HN:Hid (numsR k i d=true):=by show _=_;simp [numsR,k1,k2,k5,k14]
 have q1:(k==1)=false:=by simp [k1]
 have q2:(k==2)=false:=by simp [k2]
 have q5:(k==5)=false:=by simp [k5]
 have q14:(k==14)=false:=by simp [k14]
 clear k1 k2 k5 k14
 go_enter Tryz.func228,Tryz.ntmps228
 go_wp2;go_ret;exact ⟨zAb (by rw [HN.o]),zAa _ _⟩
def namesR (k:Int) (n m:ByteArray) (a:Nat):Bool:=
 (if k=5 then isE n || labelS n else if k=10 then opB n else decide (a<1) || nmS n) && (!(decide (a=2)) || nmS m)
def namesE (k:Int) (n m:ByteArray) (a:Nat):Int:=if namesR k n m a then (if k=13∧n.data.toList=m.data.toList then 7 else 0) else 6
theorem zVg (x:Ex) (a:Nat):namesOk x a=namesR x.kind x.name x.more a:=rfl
theorem zXo {s:ByteArray} (h:opB s=true):s=⟨#[43]⟩∨s=⟨#[45]⟩∨s=⟨#[42]⟩∨s=⟨#[61]⟩∨s=⟨#[60]⟩:=by
 unfold opB at h;simp only [Bool.or_eq_true,beq_iff_eq] at h
 rcases h with (((h|h)|h)|h)|h
 ·exact .inl (zEn h)
 ·exact .inr (.inl (zEn h))
 ·exact .inr (.inr (.inl (zEn h)))
 ·exact .inr (.inr (.inr (.inl (zEn h))))
 ·exact .inr (.inr (.inr (.inr (zEn h))))
theorem yAx {s:ByteArray} (h:s.size=1):∃c,s=⟨#[c]⟩:=by
 have h1:s.data.toList.length=1:=by rw [sz];exact h
 match hl:s.data.toList,h1 with
 | [c],_=>exact ⟨c,zEn hl⟩
def opsL:List UInt8:=[43,45,42,61,60]
def opsS:ByteArray:=⟨#[43,45,42,61,60]⟩
theorem zXp (c:UInt8) (w:World) :
  (callFunc 238 #[.string opsS,.int .u8 (c.toNat:Int)]).run Tryz.prog w=.ok (.value (.int .i64 (Lib.indexByte opsL c))) w:=by
 rw [run_callFunc_indexByte (fn:=Tryz.f238) Tryz.func238 (by kernel_rfl) (by kernel_rfl) (by kernel_rfl) (by kernel_rfl),Lib.run_indexByteString];have e:((c.toNat:Int).toNat).toUInt8=c:=by rw [Int.toNat_natCast];exact UInt8.ofNat_toNat
 rw [e];rfl
theorem yAy (c:UInt8) (w:World) :
  Calls Tryz.prog 202 #[.string opsS,.string ⟨#[c]⟩] w fun e w'=>e=.returned (.int .i64 (Lib.indexByte opsL c))∧w=w':=by
 have hrun:=zXp c;have ec:((⟨#[c]⟩:ByteArray)[0]'(Nat.zero_lt_one)).toNat=c.toNat:=rfl;have hz:opsS.size=5:=rfl;have hne:([c]==opsS.toList)=false:=by rw [tl];simp [opsS]
 have hz1:(⟨#[c]⟩:ByteArray).size=1:=rfl
 go_enter Tryz.func202,Tryz.ntmps202
 go_wp2;go_ret;exact ⟨rfl,rfl⟩
theorem yAz (c:UInt8):decide (0≤Lib.indexByte opsL c)=opB ⟨#[c]⟩:=by
 unfold opsL opB
 by_cases h1:c=43
 ·subst h1;rfl
 by_cases h2:c=45
 ·subst h2;rfl
 by_cases h3:c=42
 ·subst h3;rfl
 by_cases h4:c=61
 ·subst h4;rfl
 by_cases h5:c=60
 ·subst h5;rfl
 have e:Lib.indexByte [43,45,42,61,60] c=-1:=by
  simp [Lib.indexByte,Ne.symm h1,Ne.symm h2,Ne.symm h3,Ne.symm h4,Ne.symm h5]
 rw [e];simp [h1,h2,h3,h4,h5]
theorem zRp (s:ByteArray) (hs:s.size=1) (w:World):Calls Tryz.prog 215 #[.string opsS,.string s] w fun e w'=>e=.returned (.bool (opB s))∧w=w':=by
 obtain ⟨c,rfl⟩:=yAx hs;have HO:=lH (yAz c)
 go_enter Tryz.func215,Tryz.ntmps215
 go_wp2_with (go_at_call 202;refine (yAy c _).mono ?_;rintro e w' ⟨rfl,rfl⟩)
 go_ret;exact ⟨zAb (by rw [←HO.o]),rfl⟩
theorem zJz {k:Int} {a b c:Nat} (h:shapeK k=some (a,b,c)):(k=5∧a=1)∨(k=10∧a=1)∨(a=0∧k≠5∧k≠10∧k≠13)∨(a=1∧k≠5∧k≠10∧k≠13)∨(k=4∧a=2)∨(k=13∧a=2):=by
 rcases zDt k with hr|hr
 ·have:k=1∨k=2∨k=3∨k=4∨k=5∨k=6∨k=7∨k=8∨k=9∨k=10∨k=11∨k=12∨k=13∨k=14∨k=15:=by omega
  rcases this with rfl|rfl|rfl|rfl|rfl|rfl|rfl|rfl|rfl|rfl|rfl|rfl|rfl|rfl|rfl<;>simp [shapeK] at h<;>obtain ⟨rfl,rfl,rfl⟩:=h<;>simp
 ·rw [hr] at h;cases h
theorem zXq (w:World) (x0 x1 x2 x3 x4:ByteArray):Strs (w.alloc (.cells #[.string x0,.string x1,.string x2,.string x3,.string x4] 9)) (.slice (some ⟨w.heap.size,0,none⟩) 5 5) [x0,x1,x2,x3,x4]:=by
 refine ⟨rfl,_,5,rfl,Nat.le_refl _,by unfold maxLen;omega,fun _=>⟨w.heap.size,0,rfl,by simp,fun j u hj=>?_⟩⟩;rw [Nat.zero_add];exact (CBox.new w 9 #[.string x0,.string x1,.string x2,.string x3,.string x4]).cell (i:=j) (v:=u) (by simpa using hj)
theorem zVh (w:World) (x0 x1 x2 x3 x4:ByteArray) {B:Nat} (hB:w.heap.size=B):Strs (w.alloc (.cells #[.string x0,.string x1,.string x2,.string x3,.string x4] 9)) (.slice (some ⟨B,0,none⟩) 5 5) [x0,x1,x2,x3,x4]:=by
 subst hB;exact zXq w x0 x1 x2 x3 x4
-- GEN
theorem zLl (k i d:Int) (n m:ByteArray) (sv:Value) (a b c:Nat) (hk:shapeK k=some (a,b,c)) (hn:n.size≤40000) (hm:m.size≤40000) (w:World) :
  Calls Tryz.prog 207 #[.agg #[.int .i64 k,.string n,.string m,.int .i64 i,.int .i64 d,sv],.int .i64 a] w fun e w'=>e=.returned (.int .i64 (namesE k n m a))∧Bw w w':=by
 rcases zJz hk with ⟨rfl,rfl⟩|⟨rfl,rfl⟩|⟨rfl,k5,k10,k13⟩|⟨rfl,k5,k10,k13⟩|⟨rfl,rfl⟩|⟨rfl,rfl⟩
 ·have HE:Hid (isE n=(n.toList==[])):=by show _=_;rw [isE,tl]
  cases he:(n.toList==[]) with
  | true=>
   have HN:Hid (namesE 5 n m 1=0):=by show _=_;simp [namesE,namesR,HE.o,he]
   have HB:=lH (CBox.new w 60 #[.int .i64 5,.string n,.string m,.int .i64 i,.int .i64 d,sv])
   go_enter Tryz.func207,Tryz.ntmps207
   go_wp2;go_ret;exact ⟨zAc (by rw [HN.o]),(zAa w _)⟩
  | false=>
   cases hl:labelS n with
   | true=>
    have HN:Hid (namesE 5 n m 1=0):=by show _=_;simp [namesE,namesR,HE.o,he,hl]
    have HB:=lH (CBox.new w 60 #[.int .i64 5,.string n,.string m,.int .i64 i,.int .i64 d,sv])
    go_enter Tryz.func207,Tryz.ntmps207
    go_wp2_with (fail)
    refine (zFc n _ (by omega)).mono ?_;rintro e w1 ⟨rfl,hb1⟩;have HB1:=lH (HB.o.below hb1);have c01:=HB1.o.cell (i:=0) rfl;have c11:=HB1.o.cell (i:=1) rfl;have c21:=HB1.o.cell (i:=2) rfl;have l1:=HB1.o.lt;rw [hl];go_wp2;go_ret;exact ⟨zAc (by rw [HN.o]),(zA (zAa w _) hb1)⟩
   | false=>
    have HN:Hid (namesE 5 n m 1=6):=by show _=_;simp [namesE,namesR,HE.o,he,hl]
    have HB:=lH (CBox.new w 60 #[.int .i64 5,.string n,.string m,.int .i64 i,.int .i64 d,sv])
    go_enter Tryz.func207,Tryz.ntmps207
    go_wp2_with (fail)
    refine (zFc n _ (by omega)).mono ?_;rintro e w1 ⟨rfl,hb1⟩;have HB1:=lH (HB.o.below hb1);have c01:=HB1.o.cell (i:=0) rfl;have c11:=HB1.o.cell (i:=1) rfl;have c21:=HB1.o.cell (i:=2) rfl;have l1:=HB1.o.lt;rw [hl];go_wp2;go_ret;exact ⟨zAc (by rw [HN.o]),(zA (zAa w _) hb1)⟩
 ·by_cases h1:n.size=1
  ·have h1i:((n.size:Int)==1)=true:=by simp [h1]
   have HCO:=lH (fun w=>zRp n h1 w);unfold opsS at HCO
   cases ho:opB n with
   | true=>
    have HN:Hid (namesE 10 n m 1=0):=by show _=_;simp [namesE,namesR,ho]
    clear h1;have HB:=lH (CBox.new w 60 #[.int .i64 10,.string n,.string m,.int .i64 i,.int .i64 d,sv])
    go_enter Tryz.func207,Tryz.ntmps207
    go_wp2_with (fail)
    refine (HCO.o _).mono ?_;rintro e w1 ⟨rfl,rfl⟩;rw [ho];go_wp2;go_ret;exact ⟨zAc (by rw [HN.o]),(zAa w _)⟩
   | false=>
    have HN:Hid (namesE 10 n m 1=6):=by show _=_;simp [namesE,namesR,ho]
    clear h1;have HB:=lH (CBox.new w 60 #[.int .i64 10,.string n,.string m,.int .i64 i,.int .i64 d,sv])
    go_enter Tryz.func207,Tryz.ntmps207
    go_wp2_with (fail)
    refine (HCO.o _).mono ?_;rintro e w1 ⟨rfl,rfl⟩;rw [ho];go_wp2;go_ret;exact ⟨zAc (by rw [HN.o]),(zAa w _)⟩
  ·have ho:opB n=false:=by
    cases ho:opB n with
    | false=>rfl
    | true=>rcases zXo ho with rfl|rfl|rfl|rfl|rfl<;>exact absurd rfl h1
   have h1i:((n.size:Int)==1)=false:=by rw [beq_eq_false_iff_ne];omega
   have HN:Hid (namesE 10 n m 1=6):=by show _=_;simp [namesE,namesR,ho]
   clear h1 ho;have HB:=lH (CBox.new w 60 #[.int .i64 10,.string n,.string m,.int .i64 i,.int .i64 d,sv])
   go_enter Tryz.func207,Tryz.ntmps207
   go_wp2;go_ret;exact ⟨zAc (by rw [HN.o]),(zAa w _)⟩
 ·have HN:Hid (namesE k n m 0=0):=by show _=_;simp [namesE,namesR,k5,k10,k13]
  have q5:(k==5)=false:=by simp [k5]
  have q10:(k==10)=false:=by simp [k10]
  have q13:(k==13)=false:=by simp [k13]
  clear k5 k10 k13 hk;have HB:=lH (CBox.new w 60 #[.int .i64 k,.string n,.string m,.int .i64 i,.int .i64 d,sv])
  go_enter Tryz.func207,Tryz.ntmps207
  go_wp2;go_ret;exact ⟨zAc (by rw [HN.o]),(zAa w _)⟩
 ·have HK:Hid (∀v,nmS n=v→namesE k n m 1=if v then 0 else 6):=fun v hv=>by simp [namesE,namesR,k5,k10,k13,hv]
  have q5:(k==5)=false:=by simp [k5]
  have q10:(k==10)=false:=by simp [k10]
  have q13:(k==13)=false:=by simp [k13]
  clear k5 k10 k13 hk
  cases hv:nmS n with
  | true=>
   have HN:Hid (namesE k n m 1=0):=HK.o true hv;have HB:=lH (CBox.new w 60 #[.int .i64 k,.string n,.string m,.int .i64 i,.int .i64 d,sv])
   go_enter Tryz.func207,Tryz.ntmps207
   go_wp2_with (fail)
   refine (zCb n _ (by omega)).mono ?_;rintro e w1 ⟨rfl,hb1⟩;have HB1:=lH (HB.o.below hb1);have c01:=HB1.o.cell (i:=0) rfl;have c11:=HB1.o.cell (i:=1) rfl;have c21:=HB1.o.cell (i:=2) rfl;have l1:=HB1.o.lt;rw [hv];go_wp2;go_ret;exact ⟨zAc (by rw [HN.o]),(zA (zAa w _) hb1)⟩
  | false=>
   have HN:Hid (namesE k n m 1=6):=HK.o false hv;have HB:=lH (CBox.new w 60 #[.int .i64 k,.string n,.string m,.int .i64 i,.int .i64 d,sv])
   go_enter Tryz.func207,Tryz.ntmps207
   go_wp2_with (fail)
   refine (zCb n _ (by omega)).mono ?_;rintro e w1 ⟨rfl,hb1⟩;have HB1:=lH (HB.o.below hb1);have c01:=HB1.o.cell (i:=0) rfl;have c11:=HB1.o.cell (i:=1) rfl;have c21:=HB1.o.cell (i:=2) rfl;have l1:=HB1.o.lt;rw [hv];go_wp2;go_ret;exact ⟨zAc (by rw [HN.o]),(zA (zAa w _) hb1)⟩
 ·cases hv:nmS n with
  | false=>
   have HN:Hid (namesE 4 n m 2=6):=by show _=_;simp [namesE,namesR,hv]
   have HB:=lH (CBox.new w 60 #[.int .i64 4,.string n,.string m,.int .i64 i,.int .i64 d,sv])
   go_enter Tryz.func207,Tryz.ntmps207
   go_wp2_with (fail)
   refine (zCb n _ (by omega)).mono ?_;rintro e w1 ⟨rfl,hb1⟩;have HB1:=lH (HB.o.below hb1);have c01:=HB1.o.cell (i:=0) rfl;have c11:=HB1.o.cell (i:=1) rfl;have c21:=HB1.o.cell (i:=2) rfl;have l1:=HB1.o.lt;rw [hv];go_wp2;go_ret;exact ⟨zAc (by rw [HN.o]),(zA (zAa w _) hb1)⟩
  | true=>
   cases hu:nmS m with
   | false=>
    have HN:Hid (namesE 4 n m 2=6):=by show _=_;simp [namesE,namesR,hv,hu]
    have HB:=lH (CBox.new w 60 #[.int .i64 4,.string n,.string m,.int .i64 i,.int .i64 d,sv])
    go_enter Tryz.func207,Tryz.ntmps207
    go_wp2_with (fail)
    refine (zCb n _ (by omega)).mono ?_;rintro e w1 ⟨rfl,hb1⟩;have HB1:=lH (HB.o.below hb1);have c01:=HB1.o.cell (i:=0) rfl;have c11:=HB1.o.cell (i:=1) rfl;have c21:=HB1.o.cell (i:=2) rfl;have l1:=HB1.o.lt;rw [hv];go_wp2_with (fail)
    refine (zCb m _ (by omega)).mono ?_;rintro e w2 ⟨rfl,hb2⟩;have HB2:=lH (HB1.o.below hb2);have c02:=HB2.o.cell (i:=0) rfl;have c12:=HB2.o.cell (i:=1) rfl;have c22:=HB2.o.cell (i:=2) rfl;have l2:=HB2.o.lt;rw [hu];go_wp2;go_ret;exact ⟨zAc (by rw [HN.o]),(zA (zA (zAa w _) hb1) hb2)⟩
   | true=>
    have HN:Hid (namesE 4 n m 2=0):=by show _=_;simp [namesE,namesR,hv,hu]
    have HB:=lH (CBox.new w 60 #[.int .i64 4,.string n,.string m,.int .i64 i,.int .i64 d,sv])
    go_enter Tryz.func207,Tryz.ntmps207
    go_wp2_with (fail)
    refine (zCb n _ (by omega)).mono ?_;rintro e w1 ⟨rfl,hb1⟩;have HB1:=lH (HB.o.below hb1);have c01:=HB1.o.cell (i:=0) rfl;have c11:=HB1.o.cell (i:=1) rfl;have c21:=HB1.o.cell (i:=2) rfl;have l1:=HB1.o.lt;rw [hv];go_wp2_with (fail)
    refine (zCb m _ (by omega)).mono ?_;rintro e w2 ⟨rfl,hb2⟩;have HB2:=lH (HB1.o.below hb2);have c02:=HB2.o.cell (i:=0) rfl;have c12:=HB2.o.cell (i:=1) rfl;have c22:=HB2.o.cell (i:=2) rfl;have l2:=HB2.o.lt;rw [hu];go_wp2;go_ret;exact ⟨zAc (by rw [HN.o]),(zA (zA (zAa w _) hb1) hb2)⟩
 ·cases hv:nmS n with
  | false=>
   have HN:Hid (namesE 13 n m 2=6):=by show _=_;simp [namesE,namesR,hv]
   have HB:=lH (CBox.new w 60 #[.int .i64 13,.string n,.string m,.int .i64 i,.int .i64 d,sv])
   go_enter Tryz.func207,Tryz.ntmps207
   go_wp2_with (fail)
   refine (zCb n _ (by omega)).mono ?_;rintro e w1 ⟨rfl,hb1⟩;have HB1:=lH (HB.o.below hb1);have c01:=HB1.o.cell (i:=0) rfl;have c11:=HB1.o.cell (i:=1) rfl;have c21:=HB1.o.cell (i:=2) rfl;have l1:=HB1.o.lt;rw [hv];go_wp2;go_ret;exact ⟨zAc (by rw [HN.o]),(zA (zAa w _) hb1)⟩
  | true=>
   cases hu:nmS m with
   | false=>
    have HN:Hid (namesE 13 n m 2=6):=by show _=_;simp [namesE,namesR,hv,hu]
    have HB:=lH (CBox.new w 60 #[.int .i64 13,.string n,.string m,.int .i64 i,.int .i64 d,sv])
    go_enter Tryz.func207,Tryz.ntmps207
    go_wp2_with (fail)
    refine (zCb n _ (by omega)).mono ?_;rintro e w1 ⟨rfl,hb1⟩;have HB1:=lH (HB.o.below hb1);have c01:=HB1.o.cell (i:=0) rfl;have c11:=HB1.o.cell (i:=1) rfl;have c21:=HB1.o.cell (i:=2) rfl;have l1:=HB1.o.lt;rw [hv];go_wp2_with (fail)
    refine (zCb m _ (by omega)).mono ?_;rintro e w2 ⟨rfl,hb2⟩;have HB2:=lH (HB1.o.below hb2);have c02:=HB2.o.cell (i:=0) rfl;have c12:=HB2.o.cell (i:=1) rfl;have c22:=HB2.o.cell (i:=2) rfl;have l2:=HB2.o.lt;rw [hu];go_wp2;go_ret;exact ⟨zAc (by rw [HN.o]),(zA (zA (zAa w _) hb1) hb2)⟩
   | true=>
    cases hx:(n.toList==m.toList) with
    | true=>
     have hx':n.data.toList=m.data.toList:=by rw [tl,tl] at hx;simpa using hx
     have HN:Hid (namesE 13 n m 2=7):=by show _=_;simp [namesE,namesR,hv,hu,hx']
     clear hx';have HB:=lH (CBox.new w 60 #[.int .i64 13,.string n,.string m,.int .i64 i,.int .i64 d,sv])
     go_enter Tryz.func207,Tryz.ntmps207
     go_wp2_with (fail)
     refine (zCb n _ (by omega)).mono ?_;rintro e w1 ⟨rfl,hb1⟩;have HB1:=lH (HB.o.below hb1);have c01:=HB1.o.cell (i:=0) rfl;have c11:=HB1.o.cell (i:=1) rfl;have c21:=HB1.o.cell (i:=2) rfl;have l1:=HB1.o.lt;rw [hv];go_wp2_with (fail)
     refine (zCb m _ (by omega)).mono ?_;rintro e w2 ⟨rfl,hb2⟩;have HB2:=lH (HB1.o.below hb2);have c02:=HB2.o.cell (i:=0) rfl;have c12:=HB2.o.cell (i:=1) rfl;have c22:=HB2.o.cell (i:=2) rfl;have l2:=HB2.o.lt;rw [hu];go_wp2;go_ret;exact ⟨zAc (by rw [HN.o]),(zA (zA (zAa w _) hb1) hb2)⟩
    | false=>
     have hx':¬n.data.toList=m.data.toList:=by rw [tl,tl] at hx;simpa using hx
     have HN:Hid (namesE 13 n m 2=0):=by show _=_;simp [namesE,namesR,hv,hu,hx']
     clear hx';have HB:=lH (CBox.new w 60 #[.int .i64 13,.string n,.string m,.int .i64 i,.int .i64 d,sv])
     go_enter Tryz.func207,Tryz.ntmps207
     go_wp2_with (fail)
     refine (zCb n _ (by omega)).mono ?_;rintro e w1 ⟨rfl,hb1⟩;have HB1:=lH (HB.o.below hb1);have c01:=HB1.o.cell (i:=0) rfl;have c11:=HB1.o.cell (i:=1) rfl;have c21:=HB1.o.cell (i:=2) rfl;have l1:=HB1.o.lt;rw [hv];go_wp2_with (fail)
     refine (zCb m _ (by omega)).mono ?_;rintro e w2 ⟨rfl,hb2⟩;have HB2:=lH (HB1.o.below hb2);have c02:=HB2.o.cell (i:=0) rfl;have c12:=HB2.o.cell (i:=1) rfl;have c22:=HB2.o.cell (i:=2) rfl;have l2:=HB2.o.lt;rw [hu];go_wp2;go_ret;exact ⟨zAc (by rw [HN.o]),(zA (zA (zAa w _) hb1) hb2)⟩
theorem yB (n:ByteArray):memS n [⟨#[43]⟩,⟨#[45]⟩,⟨#[42]⟩,⟨#[61]⟩,⟨#[60]⟩]=opB n:=by
 unfold memS opB;simp only [List.any_cons,List.any_nil,Bool.or_false,Bool.or_assoc]
theorem zXr (k i d:Int) (n m:ByteArray) (sv:Value) (a b c:Nat) (hk:shapeK k=some (a,b,c)) (hn:n.size≤40000) (hm:m.size≤40000) (w:World) :
  Calls Tryz.prog 227 #[.agg #[.int .i64 k,.string n,.string m,.int .i64 i,.int .i64 d,sv],.agg #[.bool (decide (1≤a)),.bool (decide (2≤a)),.bool (decide (1≤b)),.bool (decide (2≤b)),.int .i64 c]] w fun e w'=>e=.returned (.bool (namesR k n m a))∧Bw w w':=by
 rcases zJz hk with ⟨rfl,rfl⟩|⟨rfl,rfl⟩|⟨rfl,k5,k10,k13⟩|⟨rfl,k5,k10,k13⟩|⟨rfl,rfl⟩|⟨rfl,rfl⟩
 all_goals
  generalize decide (1≤b)=b1;generalize decide (2≤b)=b2
 ·have HE:Hid (isE n=(n.toList==[])):=by show _=_;rw [isE,tl]
  cases he:(n.toList==[]) with
  | true=>
   have HN:Hid (namesR 5 n m 1=true):=by show _=_;simp [namesR,HE.o,he]
   have HB:=lH (CBox.new w 60 #[.int .i64 5,.string n,.string m,.int .i64 i,.int .i64 d,sv]);have HB:=lH (HB.o.alloc (.cells #[.bool (decide (1≤1)),.bool (decide (2≤1)),.bool b1,.bool b2,.int .i64 c] 240));have HS:=lH (CBox.new (w.alloc (.cells #[.int .i64 5,.string n,.string m,.int .i64 i,.int .i64 d,sv] 60)) 240 #[.bool (decide (1≤1)),.bool (decide (2≤1)),.bool b1,.bool b2,.int .i64 c])
   go_enter Tryz.func227,Tryz.ntmps227
   go_wp2;go_ret;exact ⟨zAb (by rw [HN.o]),(zA (zAa w _) (zAa _ _))⟩
  | false=>
   have HN:Hid (namesR 5 n m 1=labelS n):=by show _=_;simp [namesR,HE.o,he]
   have HB:=lH (CBox.new w 60 #[.int .i64 5,.string n,.string m,.int .i64 i,.int .i64 d,sv]);have HB:=lH (HB.o.alloc (.cells #[.bool (decide (1≤1)),.bool (decide (2≤1)),.bool b1,.bool b2,.int .i64 c] 240));have HS:=lH (CBox.new (w.alloc (.cells #[.int .i64 5,.string n,.string m,.int .i64 i,.int .i64 d,sv] 60)) 240 #[.bool (decide (1≤1)),.bool (decide (2≤1)),.bool b1,.bool b2,.int .i64 c])
   go_enter Tryz.func227,Tryz.ntmps227
   go_wp2_with (fail)
   refine (zFt n _ (by omega)).mono ?_;rintro e w1 ⟨rfl,rfl⟩;go_wp2;go_ret;exact ⟨zAb (by rw [HN.o]),(zA (zAa w _) (zAa _ _))⟩
 ·have HN:Hid (namesR 10 n m 1=opB n):=by show _=_;simp [namesR]
  have HO:=lH (yB n)
  go_enter Tryz.func227,Tryz.ntmps227
  go_wp2_with (fail)
  refine (zNm _ n [⟨#[43]⟩,⟨#[45]⟩,⟨#[42]⟩,⟨#[61]⟩,⟨#[60]⟩] _ (zVh _ _ _ _ _ _ (by simp)) (by decide)).mono ?_;rintro e w3 ⟨rfl,rfl⟩;rw [HO.o];go_wp2;go_ret;exact ⟨zAb (by rw [HN.o]),zA (zA (zAa w _) (zAa _ _)) (zAa _ _)⟩
 ·have HN:Hid (namesR k n m 0=true):=by show _=_;simp [namesR,k5,k10]
  have q5:(k==5)=false:=by simp [k5]
  have q10:(k==10)=false:=by simp [k10]
  clear k5 k10 k13 hk;have HB:=lH (CBox.new w 60 #[.int .i64 k,.string n,.string m,.int .i64 i,.int .i64 d,sv]);have HB:=lH (HB.o.alloc (.cells #[.bool (decide (1≤0)),.bool (decide (2≤0)),.bool b1,.bool b2,.int .i64 c] 240));have HS:=lH (CBox.new (w.alloc (.cells #[.int .i64 k,.string n,.string m,.int .i64 i,.int .i64 d,sv] 60)) 240 #[.bool (decide (1≤0)),.bool (decide (2≤0)),.bool b1,.bool b2,.int .i64 c])
  go_enter Tryz.func227,Tryz.ntmps227
  go_wp2;go_ret;exact ⟨zAb (by rw [HN.o]),(zA (zAa w _) (zAa _ _))⟩
 ·have HN:Hid (namesR k n m 1=nmS n):=by show _=_;simp [namesR,k5,k10]
  have q5:(k==5)=false:=by simp [k5]
  have q10:(k==10)=false:=by simp [k10]
  clear k5 k10 k13 hk;have HB:=lH (CBox.new w 60 #[.int .i64 k,.string n,.string m,.int .i64 i,.int .i64 d,sv]);have HB:=lH (HB.o.alloc (.cells #[.bool (decide (1≤1)),.bool (decide (2≤1)),.bool b1,.bool b2,.int .i64 c] 240));have HS:=lH (CBox.new (w.alloc (.cells #[.int .i64 k,.string n,.string m,.int .i64 i,.int .i64 d,sv] 60)) 240 #[.bool (decide (1≤1)),.bool (decide (2≤1)),.bool b1,.bool b2,.int .i64 c])
  go_enter Tryz.func227,Tryz.ntmps227
  go_wp2_with (fail)
  refine (zCj n _ (by omega)).mono ?_;rintro e w1 ⟨rfl,hb1⟩;have HB1:=lH (HB.o.below hb1);have c01:=HB1.o.cell (i:=0) rfl;have c11:=HB1.o.cell (i:=1) rfl;have c21:=HB1.o.cell (i:=2) rfl;have l1:=HB1.o.lt;have HS:=lH (HS.o.below hb1);have s01:=HS.o.cell (i:=0) rfl;have t1:=HS.o.lt;simp only [World.size_alloc] at s01 t1
  go_wp2;go_ret;exact ⟨zAb (by rw [HN.o]),(zA (zA (zAa w _) (zAa _ _)) hb1)⟩
 ·cases hu:nmS m with
  | false=>
   have HN:Hid (namesR 4 n m 2=false):=by show _=_;simp [namesR,hu]
   have HB:=lH (CBox.new w 60 #[.int .i64 4,.string n,.string m,.int .i64 i,.int .i64 d,sv]);have HB:=lH (HB.o.alloc (.cells #[.bool (decide (1≤2)),.bool (decide (2≤2)),.bool b1,.bool b2,.int .i64 c] 240));have HS:=lH (CBox.new (w.alloc (.cells #[.int .i64 4,.string n,.string m,.int .i64 i,.int .i64 d,sv] 60)) 240 #[.bool (decide (1≤2)),.bool (decide (2≤2)),.bool b1,.bool b2,.int .i64 c])
   go_enter Tryz.func227,Tryz.ntmps227
   go_wp2_with (fail)
   refine (zCj m _ (by omega)).mono ?_;rintro e w1 ⟨rfl,hb1⟩;have HB1:=lH (HB.o.below hb1);have c01:=HB1.o.cell (i:=0) rfl;have c11:=HB1.o.cell (i:=1) rfl;have c21:=HB1.o.cell (i:=2) rfl;have l1:=HB1.o.lt;have HS:=lH (HS.o.below hb1);have s01:=HS.o.cell (i:=0) rfl;have t1:=HS.o.lt;simp only [World.size_alloc] at s01 t1
   rw [hu];go_wp2;go_ret;exact ⟨zAb (by rw [HN.o]),(zA (zA (zAa w _) (zAa _ _)) hb1)⟩
  | true=>
   have HN:Hid (namesR 4 n m 2=nmS n):=by show _=_;simp [namesR,hu]
   have HB:=lH (CBox.new w 60 #[.int .i64 4,.string n,.string m,.int .i64 i,.int .i64 d,sv]);have HB:=lH (HB.o.alloc (.cells #[.bool (decide (1≤2)),.bool (decide (2≤2)),.bool b1,.bool b2,.int .i64 c] 240));have HS:=lH (CBox.new (w.alloc (.cells #[.int .i64 4,.string n,.string m,.int .i64 i,.int .i64 d,sv] 60)) 240 #[.bool (decide (1≤2)),.bool (decide (2≤2)),.bool b1,.bool b2,.int .i64 c])
   go_enter Tryz.func227,Tryz.ntmps227
   go_wp2_with (fail)
   refine (zCj m _ (by omega)).mono ?_;rintro e w1 ⟨rfl,hb1⟩;have HB1:=lH (HB.o.below hb1);have c01:=HB1.o.cell (i:=0) rfl;have c11:=HB1.o.cell (i:=1) rfl;have c21:=HB1.o.cell (i:=2) rfl;have l1:=HB1.o.lt;have HS:=lH (HS.o.below hb1);have s01:=HS.o.cell (i:=0) rfl;have t1:=HS.o.lt;simp only [World.size_alloc] at s01 t1
   rw [hu];go_wp2_with (fail)
   refine (zCj n _ (by omega)).mono ?_;rintro e w2 ⟨rfl,hb2⟩;have HB2:=lH (HB1.o.below hb2);have c02:=HB2.o.cell (i:=0) rfl;have c12:=HB2.o.cell (i:=1) rfl;have c22:=HB2.o.cell (i:=2) rfl;have l2:=HB2.o.lt;have HS:=lH (HS.o.below hb2);have s02:=HS.o.cell (i:=0) rfl;have t2:=HS.o.lt;simp only [World.size_alloc] at s02 t2
   go_wp2;go_ret;exact ⟨zAb (by rw [HN.o]),(zA (zA (zA (zAa w _) (zAa _ _)) hb1) hb2)⟩
 ·cases hu:nmS m with
  | false=>
   have HN:Hid (namesR 13 n m 2=false):=by show _=_;simp [namesR,hu]
   have HB:=lH (CBox.new w 60 #[.int .i64 13,.string n,.string m,.int .i64 i,.int .i64 d,sv]);have HB:=lH (HB.o.alloc (.cells #[.bool (decide (1≤2)),.bool (decide (2≤2)),.bool b1,.bool b2,.int .i64 c] 240));have HS:=lH (CBox.new (w.alloc (.cells #[.int .i64 13,.string n,.string m,.int .i64 i,.int .i64 d,sv] 60)) 240 #[.bool (decide (1≤2)),.bool (decide (2≤2)),.bool b1,.bool b2,.int .i64 c])
   go_enter Tryz.func227,Tryz.ntmps227
   go_wp2_with (fail)
   refine (zCj m _ (by omega)).mono ?_;rintro e w1 ⟨rfl,hb1⟩;have HB1:=lH (HB.o.below hb1);have c01:=HB1.o.cell (i:=0) rfl;have c11:=HB1.o.cell (i:=1) rfl;have c21:=HB1.o.cell (i:=2) rfl;have l1:=HB1.o.lt;have HS:=lH (HS.o.below hb1);have s01:=HS.o.cell (i:=0) rfl;have t1:=HS.o.lt;simp only [World.size_alloc] at s01 t1
   rw [hu];go_wp2;go_ret;exact ⟨zAb (by rw [HN.o]),(zA (zA (zAa w _) (zAa _ _)) hb1)⟩
  | true=>
   have HN:Hid (namesR 13 n m 2=nmS n):=by show _=_;simp [namesR,hu]
   have HB:=lH (CBox.new w 60 #[.int .i64 13,.string n,.string m,.int .i64 i,.int .i64 d,sv]);have HB:=lH (HB.o.alloc (.cells #[.bool (decide (1≤2)),.bool (decide (2≤2)),.bool b1,.bool b2,.int .i64 c] 240));have HS:=lH (CBox.new (w.alloc (.cells #[.int .i64 13,.string n,.string m,.int .i64 i,.int .i64 d,sv] 60)) 240 #[.bool (decide (1≤2)),.bool (decide (2≤2)),.bool b1,.bool b2,.int .i64 c])
   go_enter Tryz.func227,Tryz.ntmps227
   go_wp2_with (fail)
   refine (zCj m _ (by omega)).mono ?_;rintro e w1 ⟨rfl,hb1⟩;have HB1:=lH (HB.o.below hb1);have c01:=HB1.o.cell (i:=0) rfl;have c11:=HB1.o.cell (i:=1) rfl;have c21:=HB1.o.cell (i:=2) rfl;have l1:=HB1.o.lt;have HS:=lH (HS.o.below hb1);have s01:=HS.o.cell (i:=0) rfl;have t1:=HS.o.lt;simp only [World.size_alloc] at s01 t1
   rw [hu];go_wp2_with (fail)
   refine (zCj n _ (by omega)).mono ?_;rintro e w2 ⟨rfl,hb2⟩;have HB2:=lH (HB1.o.below hb2);have c02:=HB2.o.cell (i:=0) rfl;have c12:=HB2.o.cell (i:=1) rfl;have c22:=HB2.o.cell (i:=2) rfl;have l2:=HB2.o.lt;have HS:=lH (HS.o.below hb2);have s02:=HS.o.cell (i:=0) rfl;have t2:=HS.o.lt;simp only [World.size_alloc] at s02 t2
   go_wp2;go_ret;exact ⟨zAb (by rw [HN.o]),(zA (zA (zA (zAa w _) (zAa _ _)) hb1) hb2)⟩
end Go.Proofs.YtfkjfdbjhlmjcaaGreatDoor

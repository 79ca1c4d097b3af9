/- edit.useEdits. -/
import Derived.Test.YtdpnfkjafhbndaaGreatDoorEBP
import Derived.Test.YtdpnfkjafhbndaaGreatDoorEW1
namespace Go.Proofs.YtdpnfkjafhbndaaGreatDoor
open Go.RowKit Go.Shelf
attribute [local go_sem] Oper.semAt_some
theorem snoc_rest' {o r:List OEdit} {x:OEdit}:o ++ x :: r = (o ++ [x]) ++ r:=by rw [List.append_assoc];rfl
theorem useE_at {k:Int} {p:ByteArray} {us os:List ByteArray} {i:Nat} {u:ByteArray} (h:us[i]? = some u):useE k p (us.drop i) os = if memS u os then useE k p (us.drop (i + 1)) os else ⟨k,p,u,[],[]⟩ :: useE k p (us.drop (i + 1)) os:=by
 unfold useE;obtain ⟨hi,e⟩:=List.getElem?_eq_some_iff.1 h;rw [List.drop_eq_getElem_cons hi,e,List.filter_cons]
 cases memS u os <;> rfl
theorem bare_in (w:World) (k:Int) (p u:ByteArray):EditIn w ⟨k,p,u,[],[]⟩ none 0 none 0:=⟨Reads.nilRow _ _ _ _,Reads.nilRow _ _ _ _,Nat.le_refl _,Nat.zero_le _,Nat.le_refl _,Nat.zero_le _⟩
set_option maxRecDepth 100000 in
set_option maxHeartbeats 4000000 in
theorem useEdits_any (k:Int) (p:ByteArray) (us os:List ByteArray) (ua oa:Option Addr) (uc oc:Nat) (w:World) (hu:Strs w (.slice ua us.length uc) us) (ho:Strs w (.slice oa os.length oc) os) (hn:us.length≤40000) (hon:os.length≤40000) :
  Calls Tryz.prog 70 #[.int .i64 k,.string p,.slice ua us.length uc,.slice oa os.length oc] w fun r w' => ∃ v,r = .returned v∧OwnE w w' w.heap.size v (useE k p us os)∧Below w.heap.size w w':=by
 obtain ⟨i0,z,hi,hz0,hzs,hz1,hz2⟩:=info_parts' infoEdit;obtain ⟨_,_,e,hlc,hcm,hcell⟩:=hu.shape
 cases e
 have HC:=lH hcell;have HO:=lH ho;have HE:Hid (useE k p us os = ([]:List OEdit) ++ useE k p (us.drop 0) os):=rfl;clear hu ho hcell;generalize useE k p us os = T at *
 go_enter Tryz.func70,Tryz.ntmps70
 go_wp2
 go_loopw [14,9] (fun iv ov wr => ∃ (i:Nat) (out:List OEdit),i≤us.length∧iv = .int .i64 i∧Hid (T = out ++ useE k p (us.drop i) os)∧Hid (OwnE w wr w.heap.size ov out∧out.length≤i)∧Below w.heap.size w wr) (fun iv _ _ => us.length - (intOf iv).toNat)
 case atStart => exact ⟨0,[],Nat.zero_le _,rfl,HE,⟨OwnE.nil _ _ _,Nat.zero_le _⟩,qrefl _⟩
 case round =>
  obtain ⟨i,out,hil,rfl,HI,HW,hb⟩:=hrel;obtain ⟨sa,sc,rfl⟩:=HW.out.1.val
  by_cases hiu:i < us.length
  ·have hd:decide ((i:Int) < (us.length:Int)) = true:=decide_eq_true (by omega)
   have hir:(i:Int) < (us.length:Int):=by omega
   obtain ⟨u,hui⟩:∃ u,us[i]? = some u:=⟨_,List.getElem?_eq_getElem hiu⟩;obtain ⟨b,o,rfl,hbl,hc⟩:=HC.out i hiu
   have ck:wr.cell? ⟨b,o + i,none⟩ = some (.string u):=by
    have:=(hb.cell (p:=⟨b,o + i,none⟩) hbl).trans (hc i hiu);rwa [show us.getD i ByteArray.empty = u from sAt_some hui] at this
   have hbr:b < wr.heap.size:=Nat.lt_of_lt_of_le hbl hb.size;have HN:=lH (HI.out.trans (congrArg (out ++ ·) (useE_at (k:=k) (p:=p) (os:=os) hui)));have HS:=lH (SContains_any (.slice oa os.length oc) u os wr (HO.out.below hb) hon);clear hc HI hui;generalize memS u os = q at *
   cases q with
   | true =>
    simp only [if_true] at HN
    go_wp2_with (fail)
    refine HS.out.mono ?_;rintro r w1 ⟨rfl,hw1⟩;subst hw1;have HO2:Hid (OwnE w wr w.heap.size (.slice sa out.length sc) out∧out.length≤i + 1):=⟨HW.out.1,Nat.le_succ_of_le HW.out.2⟩;clear HS HW;go_wp2;go_roundw
    case rel => exact ⟨i + 1,out,by omega,by go_num,HN,HO2,hb⟩
    case measure => simp [intOf];omega
   | false =>
    simp only [Bool.false_eq_true,if_false] at HN
    rw [snoc_rest'] at HN;go_wp2_with (fail)
    refine HS.out.mono ?_;rintro r w1 ⟨rfl,hw1⟩;subst hw1;obtain ⟨xs,hown,hxs⟩:=HW.out.1;have hln:=HW.out.2;have HXS:=lH hxs;have hsw:=hb.size;have hA3:=qalloc wr (.cells #[.int .i64 k,.string p,.string u,.slice none 0 0,.slice none 0 0] 35);have HR3:=lH (owns_row (own_many wr wr.heap.size (Nat.le_refl _) 35 #[.int .i64 k,.string p,.string u,.slice none 0 0,.slice none 0 0] 5 1 rfl (by omega)));have HO3:=lH (owns_below hown hA3);have HA3:=lH hA3;have HBB:=lH hb;have hsz3:=hA3.size;clear hA3 hown hxs HS HW
    go_wp2_with (at_builtin;refine wpList_append_row rfl _ _ 23 rfl w.heap.size 35 i0 _ 5 88 Tryz.underlying23 hi hz0 hz1 hz2 hzs (by decide) _ _ _ rfl HO3.out _ _ _ rfl HR3.out (by intro u hu;simp at hu;rcases hu with rfl | rfl | rfl | rfl | rfl <;> rfl) (by unfold maxLen;omega) (by omega) (by omega) ?_)
    intro v5 w5 hown5 hg5 hbk5;have HB5:=lH (((HBB.out.trans (HA3.out.mono hsw))).grown hg5 (by omega) (fun x hx => (HO3.out.lt x hx).1));have HO5:Hid (OwnE w w5 w.heap.size v5 (out ++ [⟨k,p,u,[],[]⟩])∧(out ++ [(⟨k,p,u,[],[]⟩:OEdit)]).length≤i + 1):=⟨OwnE.snoc HXS.out (bare_in w k p u) hown5,by rw [List.length_append];simp;omega⟩;clear hown5 hg5 hbk5;go_wp2;go_roundw
    case rel => exact ⟨i + 1,_,by omega,by go_num,HN,HO5,HB5.out⟩
    case measure => simp [intOf];omega
  ·have hd:decide ((i:Int) < (us.length:Int)) = false:=decide_eq_false (by omega)
   have HF:Hid (T = out):=by show _ = _;rw [HI.out,List.drop_eq_nil_of_le (show us.length≤i by omega)];exact List.append_nil _
   have hO:=HW.out.1;have HO2:Hid (OwnE w wr w.heap.size (.slice sa out.length sc) T):=by show OwnE _ _ _ _ _;rw [HF.out];exact hO
   clear hO HI HW;go_wp2;go_ret;exact ⟨_,rfl,HO2.out,hb⟩
end Go.Proofs.YtdpnfkjafhbndaaGreatDoor


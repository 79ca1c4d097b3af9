/- Opening an argument of the type api.Spot. -/
import Derived.Test.YtdpnfkjafhbndaaGreatDoorSG5
import Derived.Test.YtdpnfkjafhbndaaGreatDoorSXG
namespace Go.Proofs.YtdpnfkjafhbndaaGreatDoor
open Go.RowKit Go.ChangeShapes Go.WideShapes Go.ChangeAt
theorem four_ofS {α:Type} {l:List α} (h:l.length = 4):∃ a b c d,l = [a,b,c,d]:=by
 match l,h with
 | [a,b,c,d],_ => exact ⟨a,b,c,d,rfl⟩
section
variable {H:Type} {enc:TypeId × Value→H} {w:World} {base:Nat} {held:Bool}
set_option maxRecDepth 100000 in
theorem opb_spot (fuel:Nat):OpB enc w base held fuel 54 spotT (fun B s => s.pack.size≤B):=by
 intro cs x h;obtain ⟨xs,n,hfu,rfl,hlen,hxl,hfl⟩:=DataW.trod_struct Tryz.underlying54 h;rw [show Tryz.prog.cellsOf 54 = 4 by kernel_rfl] at hlen;obtain ⟨c0,c1,c2,c3,rfl⟩:=four_ofS hlen;obtain ⟨y0,y1,y2,y3,rfl⟩:=four_ofS (show xs.length = 4 from hxl);have e1:Tryz.prog.cellsOf 9 = 1:=by kernel_rfl
 have e2:Tryz.prog.cellsOf 3 = 1:=by kernel_rfl
 have g0:DataW.trod enc Tryz.prog w base (fun _ => true) held n 9 (([c0,c1,c2,c3].drop 0).take (Tryz.prog.cellsOf 9)) = some y0:=hfl 0 _ rfl;have g1:DataW.trod enc Tryz.prog w base (fun _ => true) held n 3 (([c0,c1,c2,c3].drop 1).take (Tryz.prog.cellsOf 3)) = some y1:=hfl 1 _ rfl;have g2:DataW.trod enc Tryz.prog w base (fun _ => true) held n 3 (([c0,c1,c2,c3].drop 2).take (Tryz.prog.cellsOf 3)) = some y2:=hfl 2 _ rfl;have g3:DataW.trod enc Tryz.prog w base (fun _ => true) held n 3 (([c0,c1,c2,c3].drop 3).take (Tryz.prog.cellsOf 3)) = some y3:=hfl 3 _ rfl
 rw [e1] at g0;rw [e2] at g1 g2 g3;obtain ⟨p,hp,ip⟩:=opb_str _ _ _ g0;obtain ⟨i,hi,ii⟩:=opb_int _ _ _ g1;obtain ⟨k,hk,ik⟩:=opb_int _ _ _ g2;obtain ⟨q,hq,iq⟩:=opb_int _ _ _ g3
 have hB:Rows.uptoBulk (DataW.agg [y0.1,y1.1,y2.1,y3.1]) = Rows.uptoBulk y0.1 + (Rows.uptoBulk y1.1 + (Rows.uptoBulk y2.1 + (Rows.uptoBulk y3.1 + 0))) + 1:=by
  simp only [Rows.uptoBulk,Rows.uptoBulkAll]
 refine ⟨⟨p,i,k,q⟩,?_,?_⟩
 ·exact ReadsL.cons (ReadsL.one hp) (ReadsL.cons (ReadsL.one hi) (ReadsL.cons (ReadsL.one hk) (ReadsL.cons (ReadsL.one hq) (ReadsL.nil _ _))))
 ·show p.size≤Rows.uptoBulk (DataW.agg [y0.1,y1.1,y2.1,y3.1])
  rw [hB];omega
end
theorem spot_in {w:World} {s:OSpot} {cs:List Value} (h:ReadsL w [] (spotT s) cs):cs = [.string s.pack,.int .i64 s.kind,.int .i64 s.id,.int .i64 s.pos]:=by
 rw [spotT] at h;obtain ⟨x0,r0,rfl,h0,h⟩:=ReadsL.inv h;obtain ⟨x1,r1,rfl,h1,h⟩:=ReadsL.inv h;obtain ⟨x2,r2,rfl,h2,h⟩:=ReadsL.inv h;obtain ⟨x3,r3,rfl,h3,h⟩:=ReadsL.inv h;have hl:=h.len;obtain rfl:r3 = []:=List.length_eq_zero_iff.1 hl;rw [Reads.leafv h0,Reads.leafv h1,Reads.leafv h2,Reads.leafv h3]
end Go.Proofs.YtdpnfkjafhbndaaGreatDoor


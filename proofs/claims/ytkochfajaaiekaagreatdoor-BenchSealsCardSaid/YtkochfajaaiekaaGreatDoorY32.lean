/- Laws. -/
import Derived.Test.YtkochfajaaiekaaGreatDoorY2
set_option linter.all false
set_option maxHeartbeats 16000000
set_option maxRecDepth 100000
open List renaming cons.injEq->zdw
namespace Go.Proofs.YtkochfajaaiekaaGreatDoor
open Go.Proofs.Tryz
open RowKit ChangeShapes WideShapes
def open_op1{H:Type}{enc:TypeId×Value->H}{P:Program}{w:World}{base:Nat}{spare:Nat->Bool}{held:Bool}{e ti ts tb ty:TypeId}{fs:Array Field}{r:Reach}{b0:Nat}{v:Value}{d:DataW H}{p:List MemPlace}(he:P.underlying e=some (.struct fs))(hC:P.cellsOf e=7)(hfs:fs.toList.map (λf=>(f.type,f.offset))=[(ti,0),(ti,1),(ti,2),(ti,3),(ts,4),(ts,5),(tb,6)])(hi:P.underlying ti=some (.int .i64))(hs:P.underlying ts=some (.slice ty))(hy:P.underlying ty=some (.int .u8))(hb:P.underlying tb=some .string)(ci:P.cellsOf ti=1)(cs':P.cellsOf ts=1)(cy:P.cellsOf ty=1)(cb:P.cellsOf tb=1)(hv:Value.okWide P w r b0 e v)(h:DataW.Trod enc P w base spare held e v d p):∃x:Opr,v=.agg x.vals.toArray/\x.In w:=by
 obtain⟨RE,rfl,Eh⟩:=okWide_struct he hv;obtain⟨apt,eP⟩:=h;obtain⟨Te,Pp,aQ,aaJ,_,EP,AK⟩:=DataW.trod_struct he eP;have EI:RE.toList.length=7:=by rw[Array.length_toList,Eh,hC]
 obtain⟨Mv⟩:=fs;simp only at hfs;have Ig:Mv.length=7:=by have:=congrArg List.length hfs;simpa using this
 match Mv,Ig,hfs with
 | [f0,f1,f2,f3,f4,f5,f6],_,hfs =>
  simp only[List.map_cons,List.map_nil,zdw,Prod.mk.injEq,and_true] at hfs;obtain⟨⟨ek,oC⟩,⟨iJ,oD⟩,⟨iK,aaO⟩,⟨iL,aaP⟩,⟨iM,aaQ⟩,⟨iN,aaR⟩,⟨iO,aaS⟩⟩:=hfs;obtain⟨apu⟩:=RE;simp only at EI
  match apu,EI with
  | [v0,v1,v2,v3,v4,v5,v6],_ =>
   have EP:Te.length=7:=EP
   match Te,EP with
   | [y0,y1,y2,y3,y4,y5,y6],_ =>
    have ie:=AK 0 f0 rfl;have oL:=AK 1 f1 rfl;have oM:=AK 2 f2 rfl;have oN:=AK 3 f3 rfl;have oO:=AK 4 f4 rfl;have oP:=AK 5 f5 rfl;have aaT:=AK 6 f6 rfl;simp only[Value.cells,ek,iJ,iK,iL,iM,iN,iO,oC,oD,aaO,aaP,aaQ,aaR,aaS,ci,cs',cb,List.drop_succ_cons,List.drop_zero,List.take_succ_cons,List.take_zero,List.getElem?_cons_succ,List.getElem?_cons_zero] at ie oL oM oN oO oP aaT;exact asz


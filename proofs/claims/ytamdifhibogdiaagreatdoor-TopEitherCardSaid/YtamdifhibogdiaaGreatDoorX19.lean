/-
  Texts of this claim, one behind the other.
-/
import Derived.Test.YtamdifhibogdiaaGreatDoorX1
import Derived.Test.YtamdifhibogdiaaGreatDoorX18
import Derived.Test.YtamdifhibogdiaaGreatDoorX16
import Derived.Test.YtamdifhibogdiaaGreatDoorX8
import Derived.Test.YtamdifhibogdiaaGreatDoorX12
import Derived.Test.YtamdifhibogdiaaGreatDoorX17
import Derived.Test.YtamdifhibogdiaaGreatDoorX13
import Derived.Test.YtamdifhibogdiaaGreatDoorX4
import Derived.Lib.SmallJoins
import Derived.Lib.Hide
set_option linter.unusedVariables false
set_option linter.unusedSimpArgs false
set_option maxHeartbeats 16000000
set_option maxRecDepth 100000
open List renaming append_assoc→QA,drop_append→bK,drop_drop→fF,drop_eq_nil_of_le→Yx,ext_getElem?→uA,getElem?_eq_none→qc,getElem?_set→uU,length_append→q8,length_drop→XQ,length_map→yf,length_set→Vo,length_take→Ku,map_congr_left→lq,mem_map→ug,mem_of_getElem?→xU,nil_append→uo,range→uf,replicate→wh,take_append_of_le_length→uD,take_of_length_le→Y2,take_zero→cO
open Nat renaming le_refl→xc,lt_or_ge→bg,mod_lt→ma,zero_add→bH
namespace Go.Adi
open Ops Oct pI
def pE (b:List UInt8):Nat→List UInt8
 | 0=>b
 | k+1=>(pE b k).set (3+4*k) (rE (at8 (pE b k) (3+4*k)) 15)
def nP (b:List UInt8):Nat→List UInt8
 | 0=>b
 | k+1=>(nP b k).set (4+4*k) (rE (at8 (nP b k) (4+4*k)) 252)
theorem YG (b:List UInt8):∀ k,(pE b k).length=b.length
 | 0=>rfl
 | k+1=>by rw [pE,Vo,YG b k]
theorem Z4 (b:List UInt8):∀ k,(nP b k).length=b.length
 | 0=>rfl
 | k+1=>by rw [nP,Vo,Z4 b k]
theorem zc8 {b:List UInt8} (h:b.length=16):nP (pE b 4) 3=j6 b:=by
 match b,h with
 | [b0,b1,b2,b3,b4,b5,b6,b7,b8,b9,b10,b11,b12,b13,b14,b15],_=>rfl
theorem zhu (b:List UInt8):(leN b+340282366920938463463374607431768211456*(1:UInt32).toNat) % PP=ZR b:=rfl
theorem zkp (b:List UInt8):(leN b+340282366920938463463374607431768211456*(0:UInt32).toNat) % PP=leN b % PP:=by
 show (leN b+340282366920938463463374607431768211456*0) % PP=_
 rw [Nat.mul_zero,Nat.add_zero]
end Go.Adi
namespace Go.Cells
open RowKit
theorem Blk.rZ {P:Program} {w:World} {b off n:Nat} {vs us:List Value} {ty':TypeId} (h:Blk w b vs ty') {ops:Array Oper} {rest:List Oper} {op:Oper} {a:Act} {Q:Exit→Act→World→Prop} {ty:TypeId} {x:Operand}
  (hgd:op.guard=none) (ho:op.op=.load ty x) (hx:a.eval x=.pointer (some ⟨b,off,none⟩)) (hr:Row P ty n) (hu:(vs.drop off).take n=us) (hn:us.length=n)
  (k:wpList P ops Q rest (a.put op.dst (.agg us.toArray)) w):wpList P ops Q (op::rest) a w:=by
 obtain ⟨d,hu',hd,hi⟩:=hr.open
 exact wpList_load_mid hgd ty x ho b off hx us d (Blk.nA h off n us hu) hu' hd (by rw [hi,hn]) k
end Go.Cells
namespace Go.Proofs.YtamdifhibogdiaaGreatDoor
open RowKit Mem Ops Cells Oct Trn Blake pI Adi
attribute [local irreducible] zE zN zO zM yJ
theorem zc9 (b:List UInt8) (w:World) (hb:b.length=16):Calls Tryz.prog 319 #[.agg (b.map B).toArray,.int .u32 0] w fun e w'=>e=.returned (.agg ((numOf (leN b % PP)).map W).toArray)∧Below w.heap.size w w':=by
 have h:=zgd b 0 w hb (by decide)
 rw [zkp] at h
 exact h
theorem zkq (b:List UInt8) (w:World) (hb:b.length=16):Calls Tryz.prog 319 #[.agg (b.map B).toArray,.int .u32 1] w fun e w'=>e=.returned (.agg ((numOf (ZR b)).map W).toArray)∧Below w.heap.size w w':=by
 have h:=zgd b 1 w hb (by decide)
 rw [zhu] at h
 exact h
theorem zkr (b:List UInt8) (w:World) (hb:b.length=16):Calls Tryz.prog 320 #[.agg (b.map B).toArray] w fun e w'=>e=.returned (.agg ((j6 b).map B).toArray)∧Below w.heap.size w w':=by
 have HB:=znq (show b.length=16∧nP (pE b 4) 3=j6 b from ⟨hb,zc8 hb⟩)
 have HS:=znq (St.start w)
 clear hb
 go_enter Tryz.func320,Tryz.ntmps320
 go_wp2_with (refine zh 59 _ (b.map B) _ rfl rfl rfl rfl ?_)
 intro w1 hb hbel;have HS:=znq (HS.znr.push hb hbel);have hlt1:=hb.lt;clear hb hbel
 go_wp2_with (refine ze 59 ((zf 16).map B) _ rfl rfl zj rfl ?_)
 intro w2 hb hbel;have HS:=znq (HS.znr.push hb hbel);have hlt2:=hb.lt;clear hb hbel
 generalize hbb:w.heap.size=bb at *
 generalize w1.heap.size=b1 at *
 have HBB:=znq hbb
 clear hbb
 go_wp2
 go_loopw [3] (fun c wr=>∃ (k i:Nat),k≤4∧Hid (i=3+4*k)∧c=.int .i64 i∧Hid (St w bb wr [(b1,(zf 16).map B,59),(bb,(pE b k).map B,59)])) (fun c _=>19 - (intOf c).toNat)
 case atStart=>exact ⟨0,3,by omega,znq rfl,rfl,HS⟩
 case round =>
  clear HS
  obtain ⟨k,i,hk,HI,rfl,HS⟩:=hrel
  have HCL:=znq (show (pE b k).length=16 from by rw [YG];exact HB.znr.1)
  by_cases hlt:k < 4
  ·have zgS:i < 16:=by have:=HI.znr;omega
   have d0:decide ((i:Int) < 16)=true:=by simp;omega
   have HN:=znq (show (pE b k).set i (rE (at8 (pE b k) i) 15)=pE b (k+1)∧True from ⟨by rw [pE,HI.znr],trivial⟩)
   obtain ⟨nx,hnx⟩:∃ x,x=pE b (k+1):=⟨_,rfl⟩
   have HX:=znq (show pE b (k+1)=nx∧True from ⟨hnx.symm,trivial⟩)
   rw [← hnx] at HN
   clear hnx
   generalize pE b k=u at *
   have hc:=(HS.znr.get 1 rfl).cell i _ (zU (q4 (b:=u) (i:=i) (by rw [HCL.znr];exact zgS)))
   go_wp2_with (refine (HS.znr.get 1 rfl).ry (i:=i) (v:=B (rE (at8 u i) 15)) rfl rfl rfl rfl zl rfl rfl (by rw [yf,HCL.znr];exact zgS) ?_)
   intro w3 hb ho
   rw [ym,HN.znr.1,← HX.znr.1] at hb
   have HS:=znq (HS.znr.change 1 hb ho (by omega) (by simp;omega))
   clear hb ho hc
   go_wp2
   go_roundw
   case rel=>exact ⟨k+1,i+4,by omega,by have:=HI.znr;exact znq (by omega),by go_num,HS⟩
   case measure=>simp [intOf];omega
  ·obtain rfl:k=4:=by omega
   have d19:decide ((i:Int) < 16)=false:=by have:=HI.znr;simp;omega
   clear hlt HI hk
   obtain ⟨c1,hc1⟩:∃ x,x=pE b 4:=⟨_,rfl⟩
   have HC1:=znq (show nP c1 3=j6 b∧True from ⟨by rw [hc1];exact HB.znr.2,trivial⟩)
   rw [← hc1] at HS HCL
   clear hc1
   go_wp2
   go_loopw [4] (fun c wr=>∃ (k i:Nat),k≤3∧Hid (i=4+4*k)∧c=.int .i64 i∧Hid (St w bb wr [(b1,(zf 16).map B,59),(bb,(nP c1 k).map B,59)])) (fun c _=>19 - (intOf c).toNat)
   case atStart=>exact ⟨0,4,by omega,znq rfl,rfl,HS⟩
   case round =>
    clear HS
    obtain ⟨k,j,hk,HI,rfl,HS⟩:=hrel
    have HCM:=znq (show (nP c1 k).length=16 from by rw [Z4];exact HCL.znr)
    by_cases hlt:k < 3
    ·have zgS:j < 16:=by have:=HI.znr;omega
     have d0:decide ((j:Int) < 16)=true:=by simp;omega
     have HN:=znq (show (nP c1 k).set j (rE (at8 (nP c1 k) j) 252)=nP c1 (k+1)∧True from ⟨by rw [nP,HI.znr],trivial⟩)
     obtain ⟨nx,hnx⟩:∃ x,x=nP c1 (k+1):=⟨_,rfl⟩
     have HX:=znq (show nP c1 (k+1)=nx∧True from ⟨hnx.symm,trivial⟩)
     rw [← hnx] at HN
     clear hnx
     generalize nP c1 k=u at *
     have hc:=(HS.znr.get 1 rfl).cell j _ (zU (q4 (b:=u) (i:=j) (by rw [HCM.znr];exact zgS)))
     go_wp2_with (refine (HS.znr.get 1 rfl).ry (i:=j) (v:=B (rE (at8 u j) 252)) rfl rfl rfl rfl zl rfl rfl (by rw [yf,HCM.znr];exact zgS) ?_)
     intro w3 hb ho
     rw [ym,HN.znr.1,← HX.znr.1] at hb
     have HS:=znq (HS.znr.change 1 hb ho (by omega) (by simp;omega))
     clear hb ho hc
     go_wp2
     go_roundw
     case rel=>exact ⟨k+1,j+4,by omega,by have:=HI.znr;exact znq (by omega),by go_num,HS⟩
     case measure=>simp [intOf];omega
    ·obtain rfl:k=3:=by omega
     obtain rfl:j=16:=by have:=HI.znr;omega
     rw [HC1.znr.1] at HS HCM
     have HCV:=znq (show ((j6 b).map B).length=16 by rw [yf];exact HCM.znr)
     go_wp2_with (first | (refine (HS.znr.get 1 rfl).mP rfl rfl rfl zc HCV.znr ?_) | (refine (HS.znr.get 0 rfl).mM rfl rfl rfl (cs:=(j6 b).map B) rfl zc (by rw [yf,zd]) HCV.znr (zg _) ?_))
     intro w5 hb5 ho5
     have HE:=znq (zk HS.znr.bel ho5 (by omega))
     clear ho5
     go_wp2
     refine hb5.result rfl rfl rfl zc HCV.znr ⟨rfl,?_⟩
     rw [HBB.znr]
     exact HE.znr
def qe (r v:Nat) (rest:List UInt8) (k:Nat):List Value:=(numOf r).map W++(numOf v).map W++rest.map B++[.int .i64 k]
theorem jY {r v:Nat} {rest:List UInt8} {k:Nat} (h:rest.length=16):(qe r v rest k).length=27:=by simp [qe,numOf,h]
theorem Kv:Row Tryz.prog 413 27:=⟨by kernel_rfl,by kernel_rfl⟩
theorem zks (n:Nat):Tryz.prog.built 413 [(0,.agg ((numOf n).map W).toArray)]=some (qe n 0 (zf 16) 0).toArray:=by kernel_rfl
theorem zmv (r v:Nat) (rest:List UInt8) (k:Nat):((qe r v rest k).drop 0).take 5=(numOf r).map W:=rfl
theorem Ve (r v:Nat) (rest:List UInt8) (k:Nat):((qe r v rest k).drop 5).take 5=(numOf v).map W:=rfl
theorem zkt (r v n:Nat) (rest:List UInt8) (k:Nat):(qe r v rest k).take 5++(numOf n).map W++(qe r v rest k).drop (5+((numOf n).map W).length)=qe r n rest k:=rfl
theorem zge (key:List UInt8) (w:World) (hk:key.length=16):Calls Tryz.prog 312 #[.agg (key.map B).toArray] w fun e w'=>∃ sb,e=.returned (.pointer (some ⟨sb,0,none⟩))∧w.heap.size≤sb∧Blk w' sb (qe (rOf key) 0 (zf 16) 0) 413∧Below w.heap.size w w':=by
 have HKL:=znq (show key.length=16∧True from ⟨hk,trivial⟩)
 have HKV:=znq (show (key.map B).length=16 by rw [yf];exact hk)
 have HS:=znq (St.start w)
 clear hk
 go_enter Tryz.func312,Tryz.ntmps312
 go_wp2_with (refine zh 59 _ (key.map B) _ rfl rfl rfl rfl ?_)
 intro w1 hb hbel;have HS:=znq (HS.znr.push hb hbel);have hlt1:=hb.lt;clear hb hbel
 go_wp2_with (refine (HS.znr.get 0 rfl).mP rfl rfl rfl zc HKV.znr ?_)
 refine (zkr key _ HKL.znr.1).mono ?_
 rintro e w2 ⟨rfl,hbel⟩
 have HS:=znq (HS.znr.later hbel)
 clear hbel
 go_wp2_with fail
 refine (zc9 (j6 key) _ (VK _)).mono ?_
 rintro e w3 ⟨rfl,hbel⟩
 have HS:=znq (HS.znr.later hbel)
 have hz:=HS.znr.size
 clear hbel
 go_wp2_with (first | (refine xZ 413 _ _ _ rfl rfl rfl (zks (leN (j6 key) % PP)) ?_) | refine zh 413 _ (qe (leN (j6 key) % PP) 0 (zf 16) 0) _ rfl rfl rfl rfl ?_)
 intro w4 hb hbel
 have HB:=znq hb
 have HE:=znq (HS.znr.bel.trans (hbel.mono hz))
 clear hb hbel
 go_wp2
 go_ret
 exact ⟨_,rfl,hz,HB.znr,HE.znr⟩
theorem zda (sb r v n:Nat) (rest:List UInt8) (k:Nat) (w:World) (hb:Blk w sb (qe r v rest k) 413) (hr:r < PP) (hv:v < PP) (hn:n < PP) :
  Calls Tryz.prog 321 #[.pointer (some ⟨sb,0,none⟩),.agg ((numOf n).map W).toArray] w fun e w'=>(∃ x,e=.returned x)∧Blk w' sb (qe r (vX r v n) rest k) 413∧zI sb w w':=by
 have HSB:=znq hb
 have HO:=znq (zI.refl sb w)
 have HR:=znq hr
 have HV:=znq hv
 have HN:=znq hn
 have HNV:=znq (xG n)
 have HRV:=znq (xG r)
 have HVV:=znq (xG v)
 have hsb:=hb.lt
 clear hb hr hv hn
 go_enter Tryz.func321,Tryz.ntmps321
 go_wp2_with (refine zh 410 _ ((numOf n).map W) _ rfl rfl rfl rfl ?_)
 intro w1 hb hbel
 have HX:=znq hb
 have HSB:=znq (HSB.znr.below hbel hsb)
 have HO:=znq (HO.znr.trans (zI.of_below hbel))
 clear hb hbel
 generalize w.heap.size=bb at *
 go_wp2_with fail
 refine zn [0,1,2,3,4,5,7,8,9,10,6,11,12,13,14] (by kernel_rfl) (by kernel_rfl) ?_
 rintro w2 rfl
 have HX:=znq HX.znr.drew
 have HSB:=znq HSB.znr.drew
 have HO:=znq HO.znr.drew
 refine mqR ?_
 refine zt (Blk.nA HSB.znr 5 5 _ (Ve r v rest k)) HSB.znr.lt zP HVV.znr rfl rfl rfl rfl (fun K hK=>?_)
 go_simp;refine hK _ ?_;clear hK K
 refine zt HX.znr.range HX.znr.lt zP HNV.znr rfl rfl rfl rfl (fun K hK=>?_)
 go_simp;refine hK _ ?_;clear hK K
 refine mqR ?_
 refine zt (Blk.nA HSB.znr 0 5 _ (zmv r v rest k)) HSB.znr.lt zP HRV.znr rfl rfl rfl rfl (fun K hK=>?_)
 go_simp;refine hK _ ?_;clear hK K
 refine zi rfl rfl (by rfl) (fun K hK=>?_)
 go_simp
 refine (zko v n _ HV.znr HN.znr).mono ?_
 rintro e w3 ⟨rfl,hbel⟩
 have HSB:=znq (HSB.znr.below hbel HSB.znr.lt)
 have HO:=znq (HO.znr.trans (zI.of_below hbel))
 go_simp
 refine hK _ _ hbel ?_
 clear hK K hbel
 refine zi rfl rfl (by rfl) (fun K hK=>?_)
 go_simp
 refine (zht ((v+n) % PP) r _ (ma _ ze6) HR.znr).mono ?_
 rintro e w4 ⟨rfl,hbel⟩
 have HSB:=znq (HSB.znr.below hbel HSB.znr.lt)
 have HO:=znq (HO.znr.trans (zI.of_below hbel))
 go_simp
 refine hK _ _ hbel ?_
 clear hK K hbel
 refine mqR ?_
 refine zp rfl rfl (by rfl) (fun K hK=>?_)
 refine HSB.znr.pG rfl rfl rfl zP rfl (by show 5+5≤_;simp [qe,numOf]) (yT _) (fun w5 hb ho=>hK _ _ ?_)
 clear hK K
 rw [zkt] at hb
 have HSB:=znq (show Blk w5 sb (qe r (vX r v n) rest k) 413 from by unfold vX;rw [Nat.mod_mul_mod];exact hb)
 have HO:=znq (HO.znr.trans (zI.nH ho))
 clear hb ho
 go_simp
 refine zo ?_
 go_wp2
 go_end0
 exact ⟨⟨_,rfl⟩,HSB.znr,HO.znr⟩
end Go.Proofs.YtamdifhibogdiaaGreatDoor
namespace Go.Mem
open RowKit Cells Ops
theorem _root_.Go.Cells.Blk.zcS {w:World} {b:Nat} {vs:List Value} {ty:TypeId} (h:Blk w b vs ty) (i:Nat):w.cell? ⟨b,i,none⟩=vs[i]?:=by
 unfold Blk at h
 simp [World.cell?,h]
theorem _root_.Go.Cells.Only.zbF {b:Nat} {w w':World} (h:Only b w w') {c:Nat} (i:Nat) (hne:c≠b):w'.cell? ⟨c,i,none⟩=w.cell? ⟨c,i,none⟩:=by
 simp [World.cell?,h.block c hne]
theorem zr.zaX {w w':World} {ao:Option Addr} {ls:List UInt32} {bs:List UInt8} {b:Nat} {ty:TypeId} (h:zr w ao (ls.map W)) (hb:Blk w b (bs.map B) ty) (ho:Only b w w'):zr w' ao (ls.map W):=by
 intro j u hu
 obtain ⟨c,off,e,hc⟩:=h j u hu
 refine ⟨c,off,e,?_⟩
 by_cases he:c=b
 ·subst he
  exfalso
  have h1:w.cell? ⟨c,off+j,none⟩=(bs.map B)[off+j]?:=hb.zcS _
  rw [hc] at h1
  have h2:=xU h1.symm
  obtain ⟨x,_,hx⟩:=ug.1 h2
  obtain ⟨y,_,hy⟩:=ug.1 (xU hu)
  rw [← hy] at hx
  simp at hx
 ·exact (ho.zbF (off+j) he).trans hc
end Go.Mem
namespace Go.Cha
open Ops Oct Trn
theorem wH (x:UInt32):(nz x).length=4:=by simp [nz]
theorem zdd (l:List UInt32) (x:UInt32):xi (l++[x])=xi l++nz x:=by simp [xi]
theorem ze8 (bs:List UInt8) (off:Nat) (l:List UInt32) (i:Nat) (x:UInt32) (hx:l[i]? = some x) (hf:off+4*l.length≤bs.length) :
  splice (splice bs off (xi (l.take i))) (off+4*i) (nz x)=splice bs off (xi (l.take (i+1))):=by
 have hi:i < l.length:=(List.getElem?_eq_some_iff.1 hx).1
 have hl:(xi (l.take i)).length=4*i:=by rw [k4,Ku];omega
 have ht:l.take (i+1)=l.take i++[x]:=by rw [List.take_add_one,hx];rfl
 have htl:(bs.take off).length=off:=by rw [Ku];omega
 rw [ht,zdd]
 unfold splice
 rw [q8,hl,wH]
 have e1:(bs.take off++(xi (l.take i)++bs.drop (off+4*i))).take (off+4*i)=bs.take off++xi (l.take i):=by
  rw [← QA,uD (by rw [q8,htl,hl];omega),Y2 (by rw [q8,htl,hl];omega)]
 have e2:(bs.take off++(xi (l.take i)++bs.drop (off+4*i))).drop (off+4*i+4)=bs.drop (off+(4*i+4)):=by
  rw [← QA,bK,Yx (by rw [q8,htl,hl];omega),uo,q8,htl,hl,fF]
  congr 1
  omega
 rw [e1,e2]
 simp [QA]
end Go.Cha
namespace Go.Proofs.YtamdifhibogdiaaGreatDoor
open RowKit Mem Ops Cells Oct Trn Cha
attribute [local irreducible] zE zN zO zM yJ
theorem zas (po off n cap:Nat) (ns:Option Addr) (m mc:Nat) (bs:List UInt8) (ls:List UInt32) (ty:TypeId) (w:World) (hb:Blk w po (bs.map B) ty) (hl:zr w ns (ls.map W)) (hm:ls.length=m) (hm1:m≤16) (hf:off+4*m≤bs.length) (hn:4*m≤n) (hc:n≤cap) :
  Calls Tryz.prog 227 #[.slice (some ⟨po,off,none⟩) n cap,.slice ns m mc] w fun e w'=>(∃ v,e=.returned v)∧Blk w' po ((splice bs off (xi ls)).map B) ty∧zI po w w':=by
 have HB:=znq hb
 have HL:=znq hl
 have HM:=znq (show ls.length=m∧True from ⟨hm,trivial⟩)
 have HO:=znq (zI.refl po w)
 have HE0:=znq (show bs=splice bs off (xi (ls.take 0))∧True from ⟨by simp [splice,xi],trivial⟩)
 have HF:=znq (show off+4*ls.length≤bs.length from by rw [hm];exact hf)
 have hsl:∀ (i:Nat) (w':World),i < m→(Instr.slice 22 (.slice (some ⟨po,off,none⟩) n cap) (some (.int .i64 (4*(i:Int)))) none none).run Tryz.prog w'=.ok (.slice (some ⟨po,off+4*i,none⟩) (n - 4*i) (cap - 4*i)) w':=by
  intro i w' hi
  have:=yv (P:=Tryz.prog) w' 22 5 1 Tryz.underlying22 zl (some ⟨po,off,none⟩) n cap (4*i) (4*(i:Int)) (by omega) (by omega)
  rw [this]
  unfold yy
  rw [if_neg (by omega)]
  simp [Addr.add]
 have HSL:=znq hsl
 clear hb hl hm hf hsl
 go_enter Tryz.func227,Tryz.ntmps227
 go_wp2
 go_loopw [9] (fun c wr=>∃ (i:Nat),i≤m∧c=.int .i64 i∧Hid (Blk wr po ((splice bs off (xi (ls.take i))).map B) ty)∧Hid (zr wr ns (ls.map W))∧Hid (zI po w wr)) (fun c _=>m - (intOf c).toNat)
 case atStart=>exact ⟨0,by omega,rfl,znq (by rw [← HE0.znr.1];exact HB.znr),HL,HO⟩
 case round =>
  clear HB HL HO
  obtain ⟨i,hi,rfl,HB,HL,HO⟩:=hrel
  by_cases hlt:i < m
  ·obtain ⟨x,hx⟩:∃ x,ls[i]? = some x:=⟨ls[i]'(by rw [HM.znr.1];exact hlt),by simp⟩
   obtain ⟨nb,noff,rfl,hcn⟩:=HL.znr i (W x) (kz hx)
   have HSP:=znq (show splice (splice bs off (xi (ls.take i))) (off+4*i) (nz x)=splice bs off (xi (ls.take (i+1)))∧True from ⟨ze8 bs off ls i x hx HF.znr,trivial⟩)
   have HLE:=znq (show (splice bs off (xi (ls.take i))).length=bs.length∧True from ⟨length_splice _ _ _ (by rw [k4,Ku];have:=HF.znr;omega),trivial⟩)
   clear hx
   go_wp2_with fail
   refine (Zy x _).mono ?_
   rintro e w2 ⟨rfl,hbel⟩
   have hpo:=HB.znr.lt
   have HL:=znq (HL.znr.below hbel)
   have HO:=znq (HO.znr.trans (zI.of_below hbel))
   have HB:=znq (HB.znr.below hbel hpo)
   clear hbel hcn hpo
   have hz2:=HO.znr.size
   go_wp2_with (refine ze 161 ((zf 4).map B) _ rfl rfl Xq rfl ?_)
   intro w3 hb3 mY
   have hpo:=HB.znr.lt
   have HL:=znq (HL.znr.below mY)
   have HO:=znq (HO.znr.trans (zI.of_below mY))
   have HB:=znq (HB.znr.below mY hpo)
   clear mY
   generalize hw2:w2.heap.size=b2 at *
   have HW2:=znq hw2
   clear hw2
   go_wp2_with (refine hb3.mM rfl rfl rfl (cs:=(nz x).map B) rfl kL rfl (by rw [yf,wH]) (zg _) ?_)
   intro w4 hb4 ho4
   have HV:=znq hb4
   have HL4:=znq (HL.znr.zaX hb3 ho4)
   have HO:=znq (HO.znr.other ho4 hz2)
   have hpb:po < b2:=hpo
   have HB:=znq (HB.znr.only ho4 (by omega))
   have HL:=HL4
   clear hb3 hb4 ho4 HL4
   have hs:=fun w'=>HSL.znr i w' hlt
   go_wp2_with fail
   refine zn [0,1,2,3,4,5] (by kernel_rfl) (by kernel_rfl) ?_
   rintro w5 rfl
   refine mqR ?_
   clear hs
   refine zp rfl rfl (by rfl) (fun K hK=>?_)
   refine HB.znr.drew.rC (off+4*i) ((nz x).map B) rfl rfl rfl Tryz.underlying22 zl (fun _=>rfl) HV.znr.drew.lies (by rw [yf,wH];exact (Nat.min_eq_left (by omega)).symm) (by rw [yf,yf,wH,HLE.znr.1];have:=HF.znr;have:=HM.znr.1;omega) (zg _) (fun w6 hb6 ho6=>hK _ _ ?_)
   clear hK K
   rw [xV,HSP.znr.1] at hb6
   have HL:=znq ((HL.znr.below (Below.refl _ w4).drew).zaX HB.znr.drew ho6)
   have HO:=znq (HO.znr.drew.trans (zI.nH ho6))
   have HB:=znq hb6
   clear hb6 ho6
   go_simp
   refine zo ?_
   go_wp2
   go_roundw
   case rel=>exact ⟨i+1,by omega,by go_num,HB,HL,HO⟩
   case measure=>simp [intOf];omega
  ·obtain rfl:i=m:=by omega
   have HEND:=znq (show splice bs off (xi (ls.take i))=splice bs off (xi ls)∧True from ⟨by rw [Y2 (by rw [HM.znr.1];exact xc _)],trivial⟩)
   rw [HEND.znr.1] at HB
   go_wp2
   go_end0
   exact ⟨⟨_,rfl⟩,HB.znr,HO.znr⟩
end Go.Proofs.YtamdifhibogdiaaGreatDoor
namespace Go.Cha
open Ops Oct Trn
def rT (key inn:List UInt8) (i:Nat):List UInt32:=(uf 16).map fun r=>if r % 4 < i then wu key inn r else 0
theorem zm0 (key inn:List UInt8):rT key inn 0=wh 16 0:=rfl
theorem zm1 (key inn:List UInt8):rT key inn 4=je key inn:=by
 unfold rT je
 apply lq
 intro r _
 rw [if_pos (ma _ (by omega))]
theorem zat (key inn:List UInt8) (i:Nat):(rT key inn i).length=16:=by simp [rT]
theorem ze9 (key inn:List UInt8) {i:Nat} (hi:i < 4) :
  ((((rT key inn i).set i (yU j5 (4*i))).set (4+i) (yU key (4*i))).set (8+i) (yU key (4*i+16))).set (12+i) (yU inn (4*i))=rT key inn (i+1):=by
 match i,hi with
 | 0,_=>rfl
 | 1,_=>rfl
 | 2,_=>rfl
 | 3,_=>rfl
end Go.Cha
namespace Go.Proofs.YtamdifhibogdiaaGreatDoor
open RowKit Mem Ops Cells Oct Trn Cha
attribute [local irreducible] zE zN zO zM yJ
theorem zfa (w:World) (xs:List Value) (ty:TypeId) (fr:Nat×Nat):zr (w.alloc (.cells xs.toArray ty fr)) (some ⟨w.heap.size,0,none⟩) xs:=by
 intro j u hu
 refine ⟨w.heap.size,0,rfl,?_⟩
 rw [World.cell?_alloc_mark,bH]
 simpa using hu
theorem zhv (w:World):(convert 22 22 (.slice (some ⟨w.heap.size,0,none⟩) 16 16)).run Tryz.prog (w.alloc (.cells (j5.map B).toArray 5))=.ok (.slice (some ⟨w.heap.size,0,none⟩) 16 16) (w.alloc (.cells (j5.map B).toArray 5 (16,17))) :=
 Go.Joins.run_convert_bytes_const_at w 22 5 (j5.map B).toArray 16 16 w.heap.size rfl Tryz.underlying22 Tryz.underlying5
theorem zfb (w:World):(convert 22 22 (.slice (some ⟨w.heap.size,0,none⟩) 16 16)).run Tryz.prog (w.alloc (.cells #[.int .u8 101,.int .u8 120,.int .u8 112,.int .u8 97,.int .u8 110,.int .u8 100,.int .u8 32,.int .u8 51,.int .u8 50,.int .u8 45,.int .u8 98,.int .u8 121,.int .u8 116,.int .u8 101,.int .u8 32,.int .u8 107] 5))=.ok (.slice (some ⟨w.heap.size,0,none⟩) 16 16) (w.alloc (.cells (j5.map B).toArray 5 (16,17))):=zhv w
theorem zde (key inn:List UInt8) (w:World) (hk:key.length=32) (hi:inn.length=16) :
  Calls Tryz.prog 225 #[.agg (key.map B).toArray,.agg (inn.map B).toArray] w fun e w'=>e=.returned (.agg ((je key inn).map W).toArray)∧Below w.heap.size w w':=by
 have HK:=znq (show key.length=32∧True from ⟨hk,trivial⟩)
 have HI:=znq (show inn.length=16∧True from ⟨hi,trivial⟩)
 have HS:=znq (St.start w)
 clear hk hi
 go_enter Tryz.func225,Tryz.ntmps225
 go_wp2_with (refine zh 255 _ (key.map B) _ rfl rfl rfl rfl ?_)
 intro w1 hb hbel;have HS:=znq (HS.znr.push hb hbel);have hlt1:=hb.lt;clear hb hbel
 go_wp2_with (refine zh 59 _ (inn.map B) _ rfl rfl rfl rfl ?_)
 intro w2 hb hbel;have HS:=znq (HS.znr.push hb hbel);have hlt2:=hb.lt;clear hb hbel
 go_wp2_with (refine ze 329 ((wh 16 (0:UInt32)).map W) _ rfl rfl qt rfl ?_)
 intro w3 hb hbel;have HS:=znq (HS.znr.push hb hbel);have hlt3:=hb.lt;clear hb hbel
 go_wp2_with (refine ze 329 ((wh 16 (0:UInt32)).map W) _ rfl rfl qt rfl ?_)
 intro w4 hb hbel;have HS:=znq (HS.znr.push hb hbel);have zaE:=hb.lt;clear hb hbel
 generalize hbb:w.heap.size=bb at *
 generalize w1.heap.size=b1 at *
 generalize w2.heap.size=b2 at *
 generalize w3.heap.size=b3 at *
 have HBB:=znq hbb
 clear hbb
 go_wp2
 go_loopw [7] (fun c wr=>∃ (i:Nat),i≤4∧c=.int .i64 i∧Hid (St w bb wr [(b3,(rT key inn i).map W,329),(b2,(wh 16 (0:UInt32)).map W,329),(b1,inn.map B,59),(bb,key.map B,255)])) (fun c _=>4 - (intOf c).toNat)
 case atStart=>exact ⟨0,by omega,rfl,znq (by rw [zm0];exact HS.znr)⟩
 case round =>
  clear HS
  obtain ⟨i,hi,rfl,HS⟩:=hrel
  by_cases hlt:i < 4
  ·have HL0:=znq (show ((rT key inn i).map W).length=16 by rw [yf];exact zat key inn i)
   obtain ⟨a4,ha4⟩:∃ a,a=4*i:=⟨_,rfl⟩
   obtain ⟨a16,ha16⟩:∃ a,a=4*i+16:=⟨_,rfl⟩
   obtain ⟨r1,hr1⟩:∃ a,a=4+i:=⟨_,rfl⟩
   obtain ⟨r2,hr2⟩:∃ a,a=8+i:=⟨_,rfl⟩
   obtain ⟨r3,hr3⟩:∃ a,a=12+i:=⟨_,rfl⟩
   have e4:4*(i:Int)=(a4:Int):=by omega
   have e16:(a4:Int)+16=(a16:Int):=by omega
   have f1:(4:Int)+(i:Int)=(r1:Int):=by omega
   have f2:(8:Int)+(i:Int)=(r2:Int):=by omega
   have f3:(12:Int)+(i:Int)=(r3:Int):=by omega
   have HST:=znq (show ((((rT key inn i).set i (yU j5 a4)).set r1 (yU key a4)).set r2 (yU key a16)).set r3 (yU inn a4)=rT key inn (i+1)∧True from ⟨by rw [ha4,ha16,hr1,hr2,hr3];exact ze9 key inn hlt,trivial⟩)
   have g1:r1 < 16:=by omega
   have g2:r2 < 16:=by omega
   have g3:r3 < 16:=by omega
   have ga:a4≤100:=by omega
   have gb:a16≤100:=by omega
   clear ha4 ha16 hr1 hr2 hr3
   obtain ⟨fin,hfin⟩:∃ f,f=rT key inn (i+1):=⟨_,rfl⟩
   have zbN:=znq (show rT key inn (i+1)=fin∧True from ⟨hfin.symm,trivial⟩)
   rw [← hfin] at HST
   clear hfin
   generalize rT key inn i=us at *
   have hcv:=zfb wr
   go_wp2_with fail
   have HLW:=znq (zfa wr (j5.map B) 5 (16,17))
   have HS:=znq (HS.znr.later (zD wr (.cells (j5.map B).toArray 5 (16,17))))
   generalize wr.alloc (.cells (j5.map B).toArray 5 (16,17))=wm at *
   clear hcv
   refine (kZ _ 16 16 a4 j5 _ rfl (by omega) (by omega) HLW.znr).mono ?_
   rintro e w5 ⟨rfl,hbel⟩
   have HS:=znq (HS.znr.later hbel)
   clear hbel HLW
   go_wp2_with (refine (HS.znr.get 0 rfl).ry (i:=i) (v:=W (yU j5 a4)) rfl rfl rfl rfl yt rfl rfl (by rw [HL0.znr];omega) ?_)
   intro w6 hb6 ho6
   simp only [xI] at hb6
   have HS:=znq (HS.znr.change 0 hb6 ho6 (by omega) (by simp;omega))
   clear hb6 ho6
   go_wp2_with fail
   refine (kZ _ 32 32 a4 key _ HK.znr.1 (by omega) (by omega) (HS.znr.get 3 rfl).lies).mono ?_
   rintro e w7 ⟨rfl,hbel⟩
   have HS:=znq (HS.znr.later hbel)
   clear hbel
   go_wp2_with (refine (HS.znr.get 0 rfl).ry (i:=r1) (v:=W (yU key a4)) rfl rfl rfl rfl yt rfl rfl (by have:=HL0.znr;simp only [yf,Vo] at this ⊢;omega) ?_)
   intro w8 hb8 ho8
   simp only [xI] at hb8
   have HS:=znq (HS.znr.change 0 hb8 ho8 (by omega) (by simp;omega))
   clear hb8 ho8
   go_wp2_with fail
   refine (kZ _ 32 32 a16 key _ HK.znr.1 (by omega) (by omega) (HS.znr.get 3 rfl).lies).mono ?_
   rintro e w9 ⟨rfl,hbel⟩
   have HS:=znq (HS.znr.later hbel)
   clear hbel
   go_wp2_with (refine (HS.znr.get 0 rfl).ry (i:=r2) (v:=W (yU key a16)) rfl rfl rfl rfl yt rfl rfl (by have:=HL0.znr;simp only [yf,Vo] at this ⊢;omega) ?_)
   intro w10 sD rH
   simp only [xI] at sD
   have HS:=znq (HS.znr.change 0 sD rH (by omega) (by simp;omega))
   clear sD rH
   go_wp2_with fail
   refine (kZ _ 16 16 a4 inn _ HI.znr.1 (by omega) (by omega) (HS.znr.get 2 rfl).lies).mono ?_
   rintro e w11 ⟨rfl,hbel⟩
   have HS:=znq (HS.znr.later hbel)
   clear hbel
   go_wp2_with (refine (HS.znr.get 0 rfl).ry (i:=r3) (v:=W (yU inn a4)) rfl rfl rfl rfl yt rfl rfl (by have:=HL0.znr;simp only [yf,Vo] at this ⊢;omega) ?_)
   intro w12 pY sJ
   simp only [xI] at pY
   rw [HST.znr.1,← zbN.znr.1] at pY
   have HS:=znq (HS.znr.change 0 pY sJ (by omega) (by simp;omega))
   clear pY sJ
   go_wp2
   go_roundw
   case rel=>exact ⟨i+1,by omega,by go_num,HS⟩
   case measure=>simp [intOf];omega
  ·obtain rfl:i=4:=by omega
   have HFL:=znq (show ((je key inn).map W).length=16 by rw [yf];exact zjf key inn)
   rw [zm1] at HS
   go_wp2_with (first | (refine (HS.znr.get 0 rfl).mP rfl rfl rfl yW HFL.znr ?_) | (refine (HS.znr.get 1 rfl).mM rfl rfl rfl (cs:=(je key inn).map W) rfl yW rfl HFL.znr (yT _) ?_))
   intro w5 hb5 ho5
   have HE:=znq (zk HS.znr.bel ho5 (by omega))
   clear ho5
   go_wp2
   refine hb5.result rfl rfl rfl yW HFL.znr ⟨rfl,?_⟩
   rw [HBB.znr]
   exact HE.znr
end Go.Proofs.YtamdifhibogdiaaGreatDoor
namespace Go.Cha
open Ops Oct Trn
def Zs (t s:List UInt32) (i:Nat):List UInt32:=(uf 16).map fun r=>if r < i then jI (yR t r) (yR s r) else yR t r
theorem jk (t s:List UInt32) (i:Nat):(Zs t s i).length=16:=by simp [Zs]
theorem YY (t s:List UInt32) (i r:Nat) (hr:r < 16):(Zs t s i)[r]? = some (if r < i then jI (yR t r) (yR s r) else yR t r):=by
 unfold Zs
 rw [List.getElem?_map,List.getElem?_range hr]
 rfl
theorem zm2 {t:List UInt32} (s:List UInt32) (h:t.length=16):Zs t s 0=t:=by
 apply uA
 intro r
 rcases bg r 16 with hr | hr
 ·rw [YY t s 0 r hr,if_neg (by omega),qO (by omega)]
 ·rw [qc (by rw [jk];omega),qc (by omega)]
theorem zkx (t s:List UInt32):Zs t s 16=sI t s:=by
 unfold Zs sI
 apply lq
 intro r hr
 rw [if_pos (List.mem_range.1 hr)]
theorem zfc (t s:List UInt32) {i:Nat} (hi:i < 16):(Zs t s i).set i (jI (yR t i) (yR s i))=Zs t s (i+1):=by
 apply uA
 intro r
 rw [uU,jk]
 rcases bg r 16 with hr | hr
 ·rw [YY t s (i+1) r hr]
  by_cases e:i=r
  ·subst e
   rw [if_pos rfl,if_pos hr,if_pos (by omega)]
  ·rw [if_neg e,YY t s i r hr]
   by_cases h:r < i
   ·rw [if_pos h,if_pos (by omega)]
   ·rw [if_neg h,if_neg (by omega)]
 ·rw [if_neg (by omega),qc (by rw [jk];omega),qc (by rw [jk];omega)]
theorem zdf (a b:List UInt8) (h:a.length=b.length):splice a 0 b=b:=by
 unfold splice
 rw [cO,uo,bH,Yx (by omega),List.append_nil]
theorem zfd (z a b:List UInt8) (hz:z.length=32) (ha:a.length=16) (hb:b.length=16):splice (splice z 0 a) 16 b=a++b:=by
 unfold splice
 rw [cO,uo,bH,ha,hb,uD (by omega),Y2 (by omega),bK,Yx (by omega),fF,Yx (by omega)]
 simp
end Go.Cha
namespace Go.Proofs.YtamdifhibogdiaaGreatDoor
open RowKit Mem Ops Cells Oct Trn Cha
attribute [local irreducible] zE zN zO zM yJ
theorem qN {P:Program} (w:World) (t e:TypeId) (n:Nat) (ht:P.underlying t=some (.array n e)) (hs:(P.info? e).map (·.size)=some 1) (b o hi:Nat) (i:Int) (h:i=hi) (h2:hi≤n) (h3:0 < n) :
  (Instr.sliceAt t (.pointer (some ⟨b,o,none⟩)) none (some (.int .i64 i)) none).run P w=.ok (.slice (some ⟨b,o,none⟩) hi n) w:=by
 subst h
 cases hq:P.info? e with
 | none=>rw [hq] at hs;cases hs
 | some x =>
  have hx:x.size=1:=by rw [hq] at hs;simpa using hs
  have hz:(sizeOf e).run P w=.ok 1 w:=by simp [sizeOf,typeInfo,hq,hx]
  have hne:n≠0:=by omega
  simp [Instr.sliceAt,run_underlying ht,Instr.sureAddr,Instr.sliceBounds,Instr.sliceBound,asIntOf,hz,h2,hne,add_eq,show ¬ n < hi by omega]
  try simp [Addr.add]
theorem wI:Row Tryz.prog 287 64:=⟨by kernel_rfl,by kernel_rfl⟩
theorem yP:Row Tryz.prog 255 32:=⟨by kernel_rfl,by kernel_rfl⟩
theorem ZU:(Tryz.prog.info? 287).map (·.zero)=some (some (.agg ((zf 64).map B).toArray)):=by kernel_rfl
theorem qA:(Tryz.prog.info? 255).map (·.zero)=some (some (.agg ((zf 32).map B).toArray)):=by kernel_rfl
theorem St.tq {w0 w w':World} {base:Nat} {L:List (Nat×List Value×TypeId)} (h:St w0 base w L) (i:Nat) {b:Nat} {us:List Value} {ty:TypeId} (hb:Blk w' b us ty) (ho:zI b w w') (hbase:base≤b) (hne:∀ e∈L.eraseIdx i,e.1≠b):St w0 base w' (L.set i (b,us,ty)):=by
 refine ⟨h.nW,jP h.bel ho hbase h.size,fun e he=>?_⟩
 obtain ⟨j,hj⟩:=List.mem_iff_getElem?.1 he
 rw [uU] at hj
 by_cases e1:i=j
 ·subst e1
  rw [if_pos rfl] at hj
  split at hj
  ·cases hj;exact hb
  ·cases hj
 ·rw [if_neg e1] at hj
  exact (h.all e (xU hj)).pR ho (hne e (kA _ _ _ _ (fun h=>e1 h.symm) hj))
theorem zhw (key inn:List UInt8) (r:Nat) (w:World) (hk:key.length=32) (hi:inn.length=16) (hr:YX r) :
  Calls Tryz.prog 192 #[.agg (key.map B).toArray,.agg (inn.map B).toArray,.int .i64 r] w fun e w'=>e=.returned (.tuple #[.agg ((wW key inn r).map B).toArray,.int .i64 0])∧Below w.heap.size w w':=by
 have HK:=znq (show (key.map B).length=32 by rw [yf];exact hk)
 have HI:=znq (show (inn.map B).length=16 by rw [yf];exact hi)
 have HKL:=znq (show key.length=32∧True from ⟨hk,trivial⟩)
 have HIL:=znq (show inn.length=16∧True from ⟨hi,trivial⟩)
 have HRD:=znq hr
 have HS:=znq (St.start w)
 clear hk hi hr
 go_enter Tryz.func192,Tryz.ntmps192
 go_wp2_with (refine zh 255 _ (key.map B) _ rfl rfl rfl rfl ?_)
 intro w1 hb hbel;have HS:=znq (HS.znr.push hb hbel);have hlt1:=hb.lt;clear hb hbel
 go_wp2_with (refine zh 59 _ (inn.map B) _ rfl rfl rfl rfl ?_)
 intro w2 hb hbel;have HS:=znq (HS.znr.push hb hbel);have hlt2:=hb.lt;clear hb hbel
 go_wp2_with (refine ze 287 ((zf 64).map B) _ rfl rfl ZU rfl ?_)
 intro w3 hb hbel;have HS:=znq (HS.znr.push hb hbel);have hlt3:=hb.lt;clear hb hbel
 go_wp2_with (refine ze 287 ((zf 64).map B) _ rfl rfl ZU rfl ?_)
 intro w4 hb hbel;have HS:=znq (HS.znr.push hb hbel);have zaE:=hb.lt;clear hb hbel
 generalize hbb:w.heap.size=bb at *
 generalize w1.heap.size=b1 at *
 generalize w2.heap.size=b2 at *
 generalize w3.heap.size=b3 at *
 have HBB:=znq hbb
 clear hbb
 go_wp2_with fail
 refine (zc6 r _ HRD.znr).mono ?_
 rintro e w5 ⟨rfl,rfl⟩
 go_wp2_with (first | (refine (HS.znr.get 3 rfl).mP rfl rfl rfl yP HK.znr ?_) | (refine (HS.znr.get 2 rfl).mP rfl rfl rfl zc HI.znr ?_))
 refine (zde key inn _ HKL.znr.1 HIL.znr.1).mono ?_
 rintro e w6 ⟨rfl,hbel⟩
 have HS:=znq (HS.znr.later hbel)
 obtain ⟨ss,hss⟩:∃ ss,ss=je key inn:=⟨_,rfl⟩
 have HSS:=znq (show je key inn=ss∧True from ⟨hss.symm,trivial⟩)
 have HSL:=znq (show ss.length=16∧True from ⟨by rw [hss];exact zjf _ _,trivial⟩)
 have HSV:=znq (show (ss.map W).length=16 by rw [yf];exact HSL.znr.1)
 rw [← hss]
 have hz6:=HS.znr.size
 clear hbel hss
 have h36:b3 < w6.heap.size:=HS.znr.ne _ (xU (i:=0) rfl)
 go_wp2_with (refine ze 329 ((wh 16 (0:UInt32)).map W) _ rfl rfl qt rfl ?_)
 intro w7 hb hbel;have HS:=znq (HS.znr.push hb hbel);have zcQ:=hb.lt;clear hb hbel
 generalize w6.heap.size=b6 at *
 go_wp2_with (first | (refine (HS.znr.get 0 rfl).mP rfl rfl rfl yW HSV.znr ?_) | (refine (HS.znr.get 0 rfl).mM rfl rfl rfl (cs:=ss.map W) rfl yW rfl HSV.znr (yT _) ?_))
 intro w8 hb8 ho8
 have HS:=znq (HS.znr.change 0 hb8 ho8 (by omega) (by simp;omega))
 clear hb8 ho8
 go_wp2_with (refine (HS.znr.get 0 rfl).mP rfl rfl rfl yW HSV.znr ?_)
 refine (zc7 ss r _ HSL.znr.1 HRD.znr).mono ?_
 rintro e w9 ⟨rfl,hbel⟩
 have HS:=znq (HS.znr.later hbel)
 obtain ⟨ts,hts⟩:∃ ts,ts=xQ ss (r / 2):=⟨_,rfl⟩
 have HTS:=znq (show xQ ss (r / 2)=ts∧True from ⟨hts.symm,trivial⟩)
 have HTL:=znq (show ts.length=16∧True from ⟨by rw [hts,zio];exact HSL.znr.1,trivial⟩)
 have HTV:=znq (show (ts.map W).length=16 by rw [yf];exact HTL.znr.1)
 rw [← hts]
 clear hbel hts
 have h69:b6 < w9.heap.size:=HS.znr.ne _ (xU (i:=0) rfl)
 go_wp2_with (refine ze 329 ((wh 16 (0:UInt32)).map W) _ rfl rfl qt rfl ?_)
 intro w10 hb hbel;have HS:=znq (HS.znr.push hb hbel);have zfW:=hb.lt;clear hb hbel
 generalize w9.heap.size=b9 at *
 go_wp2_with (refine (HS.znr.get 0 rfl).mM rfl rfl rfl (cs:=ts.map W) rfl yW rfl HTV.znr (yT _) ?_)
 intro w11 zbO tV
 have HS:=znq (HS.znr.change 0 zbO tV (by omega) (by simp;omega))
 clear zbO tV
 go_wp2
 go_loopw [25] (fun c wr=>∃ (i:Nat),i≤16∧c=.int .i64 i∧Hid (St w bb wr [(b9,(Zs ts ss i).map W,329),(b6,ss.map W,329),(b3,(zf 64).map B,287),(b2,(zf 64).map B,287),(b1,inn.map B,59),(bb,key.map B,255)])) (fun c _=>16 - (intOf c).toNat)
 case atStart=>exact ⟨0,by omega,rfl,znq (by rw [zm2 ss HTL.znr.1];exact HS.znr)⟩
 case round =>
  clear HS
  obtain ⟨i,hi,rfl,HS⟩:=hrel
  by_cases hlt:i < 16
  ·have HGL:=znq (jk ts ss i)
   have HGS:=znq (show (Zs ts ss i).set i (jI (yR ts i) (yR ss i))=Zs ts ss (i+1)∧True from ⟨zfc ts ss hlt,trivial⟩)
   have hg:(Zs ts ss i)[i]? = some (yR ts i):=by rw [YY ts ss i i hlt,if_neg (by omega)]
   have hc0:=fun (x:zG wr.drew)=>((HS.znr.get 0 rfl).drew.below x.later (HS.znr.get 0 rfl).drew.lt).cell i _ (kz hg)
   have hc1:=fun (x:zG wr.drew)=>((HS.znr.get 1 rfl).drew.below x.later (HS.znr.get 1 rfl).drew.lt).cell i _ (kz (qO (l:=ss) (i:=i) (by rw [HSL.znr.1];exact hlt)))
   clear hg
   go_wp2_with fail
   refine zn [0,1,2,3,4,5,6,7,8] (by kernel_rfl) (by kernel_rfl) ?_
   rintro w12 rfl
   refine mqR ?_
   clear hc0 hc1
   have HS:=znq HS.znr.drew
   refine zp rfl rfl (by rfl) (fun K hK=>?_)
   refine (HS.znr.get 0 rfl).nO (v:=W (jI (yR ts i) (yR ss i))) rfl rfl rfl yt rfl rfl (by rw [yf,HGL.znr];exact hlt) (fun w13 zbA zaS=>hK _ _ ?_)
   clear hK K
   rw [xI,HGS.znr.1] at zbA
   have HS:=znq (HS.znr.change 0 zbA zaS (by omega) (by simp;omega))
   clear zbA zaS
   go_simp
   refine zo ?_
   go_wp2
   go_roundw
   case rel=>exact ⟨i+1,by omega,by go_num,HS⟩
   case measure=>simp [intOf];omega
  ·obtain rfl:i=16:=by omega
   rw [zkx] at HS
   have HAL:=znq (wV ts ss)
   have zcD:=znq (show splice (zf 64) 0 (xi (sI ts ss))=wW key inn r∧True from ⟨by rw [zdf _ _ (by rw [k4,wV,zd])];unfold wW;rw [HSS.znr.1,HTS.znr.1],trivial⟩)
   have HOV:=znq (show ((wW key inn r).map B).length=64 by rw [yf,wX])
   generalize sI ts ss=us at *
   go_wp2_with fail
   refine kW (fun u v=>Below u.heap.size u v) [2] [(0,2),(1,2),(2,0)] (fun a=>Below.refl _ a) (fun _ _ _ h1 h2=>h1.trans (h2.mono h1.size)) (by kernel_rfl) (by kernel_rfl) ?_
   rintro w14 rfl
   have HS:=znq HS.znr.drew
   refine mqN ?_
   refine yS rfl (by rfl) (fun K hK=>?_)
   go_simp
   refine (zas b3 0 64 64 _ 16 16 (zf 64) us 287 _ (HS.znr.get 2 rfl) (HS.znr.get 0 rfl).lies HAL.znr (by omega) (by rw [zd];omega) (by omega) (by omega)).mono ?_
   rintro e w15 ⟨⟨v15,rfl⟩,zbK,zbL⟩
   rw [zcD.znr.1] at zbK
   have HS:=znq (St.tq HS.znr 2 zbK zbL (by omega) (by simp;omega))
   clear zbK zbL
   go_simp
   refine hK _ _ (fun h=>by cases h) ?_
   clear hK K
   refine jA ?_
   go_wp2_with (first | (refine (HS.znr.get 2 rfl).mP rfl rfl rfl wI HOV.znr ?_) | (refine (HS.znr.get 3 rfl).mM rfl rfl rfl (cs:=(wW key inn r).map B) rfl wI rfl HOV.znr (zg _) ?_))
   intro w16 zaT zdJ
   have HE:=znq (zk HS.znr.bel zdJ (by omega))
   clear zdJ
   go_wp2
   refine zaT.zaN (v:=.int .i64 0) rfl rfl rfl rfl wI HOV.znr ⟨rfl,?_⟩
   rw [HBB.znr]
   exact HE.znr
theorem WE (key inn:List UInt8) (r:Nat) (w:World) (hk:key.length=32) (hi:inn.length=16) (hr:YX r) :
  Calls Tryz.prog 191 #[.agg (key.map B).toArray,.agg (inn.map B).toArray,.int .i64 r] w fun e w'=>e=.returned (.tuple #[.agg ((jw key inn r).map B).toArray,.int .i64 0])∧Below w.heap.size w w':=by
 have HK:=znq (show (key.map B).length=32 by rw [yf];exact hk)
 have HI:=znq (show (inn.map B).length=16 by rw [yf];exact hi)
 have HKL:=znq (show key.length=32∧True from ⟨hk,trivial⟩)
 have HIL:=znq (show inn.length=16∧True from ⟨hi,trivial⟩)
 have HRD:=znq hr
 have HS:=znq (St.start w)
 clear hk hi hr
 go_enter Tryz.func191,Tryz.ntmps191
 go_wp2_with (refine zh 255 _ (key.map B) _ rfl rfl rfl rfl ?_)
 intro w1 hb hbel;have HS:=znq (HS.znr.push hb hbel);have hlt1:=hb.lt;clear hb hbel
 go_wp2_with (refine zh 59 _ (inn.map B) _ rfl rfl rfl rfl ?_)
 intro w2 hb hbel;have HS:=znq (HS.znr.push hb hbel);have hlt2:=hb.lt;clear hb hbel
 go_wp2_with (refine ze 255 ((zf 32).map B) _ rfl rfl qA rfl ?_)
 intro w3 hb hbel;have HS:=znq (HS.znr.push hb hbel);have hlt3:=hb.lt;clear hb hbel
 go_wp2_with (refine ze 255 ((zf 32).map B) _ rfl rfl qA rfl ?_)
 intro w4 hb hbel;have HS:=znq (HS.znr.push hb hbel);have zaE:=hb.lt;clear hb hbel
 generalize hbb:w.heap.size=bb at *
 generalize w1.heap.size=b1 at *
 generalize w2.heap.size=b2 at *
 generalize w3.heap.size=b3 at *
 have HBB:=znq hbb
 clear hbb
 go_wp2_with fail
 refine (zc6 r _ HRD.znr).mono ?_
 rintro e w5 ⟨rfl,rfl⟩
 go_wp2_with (first | (refine (HS.znr.get 3 rfl).mP rfl rfl rfl yP HK.znr ?_) | (refine (HS.znr.get 2 rfl).mP rfl rfl rfl zc HI.znr ?_))
 refine (zde key inn _ HKL.znr.1 HIL.znr.1).mono ?_
 rintro e w6 ⟨rfl,hbel⟩
 have HS:=znq (HS.znr.later hbel)
 clear hbel
 go_wp2_with fail
 refine (zc7 (je key inn) r _ (zjf _ _) HRD.znr).mono ?_
 rintro e w9 ⟨rfl,hbel⟩
 have HS:=znq (HS.znr.later hbel)
 obtain ⟨ts,hts⟩:∃ ts,ts=xQ (je key inn) (r / 2):=⟨_,rfl⟩
 have HTL:=znq (show ts.length=16∧True from ⟨by rw [hts,zio,zjf],trivial⟩)
 have HTV:=znq (show (ts.map W).length=16 by rw [yf];exact HTL.znr.1)
 have zcD:=znq (show splice (splice (zf 32) 0 (xi (ts.take 4))) 16 (xi (ts.drop 12))=jw key inn r∧True from ⟨by
  rw [zfd _ _ _ (zd 32) (by rw [k4,Ku,HTL.znr.1];omega) (by rw [k4,XQ,HTL.znr.1]),hts];rfl,trivial⟩)
 have HOV:=znq (show ((jw key inn r).map B).length=32 by rw [yf,wY])
 have HSPL:=znq (show (splice (zf 32) 0 (xi (ts.take 4))).length=32 from by rw [length_splice _ _ _ (by rw [k4,Ku,zd];omega),zd])
 rw [← hts]
 clear hbel hts
 have h69:b3 < w9.heap.size:=HS.znr.ne _ (xU (i:=0) rfl)
 go_wp2_with (refine ze 329 ((wh 16 (0:UInt32)).map W) _ rfl rfl qt rfl ?_)
 intro w10 hb hbel;have HS:=znq (HS.znr.push hb hbel);have zfW:=hb.lt;clear hb hbel
 generalize w9.heap.size=b9 at *
 go_wp2_with (refine (HS.znr.get 0 rfl).mM rfl rfl rfl (cs:=ts.map W) rfl yW rfl HTV.znr (yT _) ?_)
 intro w11 zbO tV
 have HS:=znq (HS.znr.change 0 zbO tV (by omega) (by simp;omega))
 clear zbO tV
 have hs1:=fun (w':World)=>qN (P:=Tryz.prog) w' 329 155 16 Tryz.underlying329 yt b9 0 4 4 rfl (by omega) (by omega)
 have hs2:=fun (w':World)=>yY (P:=Tryz.prog) w' 329 155 16 Tryz.underlying329 yt b9 0 12 12 rfl (by omega)
 have hs3:=fun (w':World)=>yY (P:=Tryz.prog) w' 255 5 32 Tryz.underlying255 zl b3 0 16 16 rfl (by omega)
 have HS2:=znq hs2
 have HS3:=znq hs3
 clear hs2 hs3
 go_wp2_with fail
 refine kW (fun u v=>Below u.heap.size u v) [2] [(0,2),(1,2),(2,0)] (fun a=>Below.refl _ a) (fun _ _ _ h1 h2=>h1.trans (h2.mono h1.size)) (by kernel_rfl) (by kernel_rfl) ?_
 rintro w14 rfl
 have HS:=znq HS.znr.drew
 refine mqN ?_
 clear hs1
 refine yS rfl (by rfl) (fun K hK=>?_)
 go_simp
 refine (zas b3 0 32 32 (some ⟨b9,0,none⟩) 4 16 (zf 32) (ts.take 4) 255 _ (HS.znr.get 1 rfl) (by rw [List.map_take];exact (HS.znr.get 0 rfl).lies.take 4) (by rw [Ku,HTL.znr.1];rfl) (by omega) (by rw [zd];omega) (by omega) (by omega)).mono ?_
 rintro e w15 ⟨⟨v15,rfl⟩,zbK,zbL⟩
 have HS:=znq (St.tq HS.znr 1 zbK zbL (by omega) (by simp;omega))
 clear zbK zbL
 go_simp
 refine hK _ _ (fun h=>by cases h) ?_
 clear hK K
 refine jA ?_
 have hs2:=HS2.znr
 have hs3:=HS3.znr
 go_wp2_with fail
 refine kW (fun u v=>Below u.heap.size u v) [2] [(0,2),(1,2),(2,0)] (fun a=>Below.refl _ a) (fun _ _ _ h1 h2=>h1.trans (h2.mono h1.size)) (by kernel_rfl) (by kernel_rfl) ?_
 rintro w16 rfl
 have HS:=znq HS.znr.drew
 refine mqN ?_
 clear hs2 hs3
 refine yS rfl (by rfl) (fun K hK=>?_)
 go_simp
 refine (zas b3 16 16 16 (some ⟨b9,12,none⟩) 4 4 (splice (zf 32) 0 (xi (ts.take 4))) (ts.drop 12) 255 _ (HS.znr.get 1 rfl) (by rw [List.map_drop];exact Blk.su (HS.znr.get 0 rfl) 12 (by rw [Y2 (xc _)])) (by rw [XQ,HTL.znr.1]) (by omega) (by rw [HSPL.znr];omega) (by omega) (by omega)).mono ?_
 rintro e w17 ⟨⟨v17,rfl⟩,zcZ,zdP⟩
 rw [zcD.znr.1] at zcZ
 have HS:=znq (St.tq HS.znr 1 zcZ zdP (by omega) (by simp;omega))
 clear zcZ zdP
 go_simp
 refine hK _ _ (fun h=>by cases h) ?_
 clear hK K
 refine jA ?_
 go_wp2_with (first | (refine (HS.znr.get 1 rfl).mP rfl rfl rfl yP HOV.znr ?_) | (refine (HS.znr.get 2 rfl).mM rfl rfl rfl (cs:=(jw key inn r).map B) rfl yP rfl HOV.znr (zg _) ?_))
 intro w18 ziJ zfX
 have HE:=znq (zk HS.znr.bel zfX (by omega))
 clear zfX
 go_wp2
 refine ziJ.zaN (v:=.int .i64 0) rfl rfl rfl rfl yP HOV.znr ⟨rfl,?_⟩
 rw [HBB.znr]
 exact HE.znr
end Go.Proofs.YtamdifhibogdiaaGreatDoor
namespace Go
open RowKit Cells
section
variable {P:Program} {ops:Array Oper} {Q:Exit→Act→World→Prop} {md:Region.Mode} {brk:List Nat} {C:Act→World→Prop}
instance (w:World):Nonempty (xR zW w):=⟨⟨w,zW.refl w⟩⟩
theorem Kw {i:Nat} {r:List Nat} {o:Oper} {a:Act} {w:World} {ty:TypeId} {x:Operand} {b off n:Nat} {vs:List Value} (h:w.rangeAt b off vs) (hb:b < w.heap.size) (hr:Row P ty n) (hn:vs.length=n)
  (ho:ops[i]? = some o) (hg:o.guard=none) (hop:o.op=.load ty x) (hx:a.eval x=.pointer (some ⟨b,off,none⟩))
  (k:∀ K:Act→Prop,(∀ a',qM zW P ops C r a' w→K a')→K (a.put o.dst (.agg vs.toArray))):qM zW P ops C (i::r) a w:=by
 have hw:Region.wanted o (yielded ops a.tmps)=true:=by simp [Region.wanted,hg]
 simp only [qM,ho,hw,if_true]
 exact ⟨_,fun w' hw'=>wt hop hx hr hn (ke h hw' hb),k _ fun _ h=>h⟩
theorem Qv {listed:Array Bool} {a:Act} {w:World} (order:List (Nat×Nat))
  (hB:(Region.noSelect ops && Region.checkN brk md ops order listed)=true) (h:yJ zW brk P ops (NoPanic Q) order a w):qj zW brk P md ops (NoPanic Q) order.length listed a w:=by
 simp only [Bool.and_eq_true] at hB
 exact xh zW.refl (fun _ _ _ h1 h2=>h1.trans h2) hB.1 (fun c a w hq=>hq) order listed a w hB.2 h
end
end Go

/- Laws. -/
import Derived.Test.YtkochfajaaiekaaGreatDoorY24
import Derived.Test.YtkochfajaaiekaaGreatDoorY27
set_option linter.all false
set_option maxHeartbeats 16000000
set_option maxRecDepth 100000
open List renaming length_map->zaa,length_take->zam,mem_append->zaC
namespace Go.Proofs.YtkochfajaaiekaaGreatDoor
open Go.Proofs.Tryz
section
open RowKit
attribute [local irreducible] zA zG zH zE zR
def Ni(a:Nat)(h:a<2^53):(FloatKind.f64.format.order (fl a) (fl a)==some Ordering.eq)=true:=by have:=pj a a h h;show(Ieee.double.order (fl a) (fl a)==some Ordering.eq)=true;rw[this];simp
def M0{s:yN}{m:Nat}(h:QR m s)(hm:m<=1000):∃p q,MZ s=.complex .f64 p q/\(FloatKind.f64.format.order p p==some Ordering.eq)=true/\(FloatKind.f64.format.order q q==some Ordering.eq)=true:=by
 unfold MZ;cases e:s.vol with
 | none=>exact⟨0,0,rfl,ar,ar⟩
 | some v =>
  have ag:=h v e;exact⟨_,_,rfl,Ni _ ae,Ni _ ae⟩
def zme(w:World)(ba bb:Nat)(xs:List Opr)(j:Nat)(wr:World):Prop :=
 ∃F Oa Ob,Duo F Oa Ob wr ba bb (doL zee ((vG xs).take j)).1 (doL zee ((vG xs).take j)).1/\Below w.heap.size w wr/\∀i∈F,w.heap.size<=i
def ML:QR 0 zee:=λv hv=>by cases hv
def MM{xs:List Opr}{j n:Nat}(hn:xs.length=n)(h:n<=1000):XM (doL zee ((vG xs).take j)).1:=λv hv=>by
 have h9:=mF ((vG xs).take j) 0 zee uS ML v hv;have h8:((vG xs).take j).length<=n:=by rw[zam,zaa,hn];omega
 omega
def NI(ao:OA)(n cap:Nat)(xs:List Opr)(w:World)(hn:xs.length=n)(hx:wN w ao xs)(hcm:n<=maxLen)(hg:zeT w)(hbg:yi w):C_b 8 #[.slice ao n cap] w (.bool true):=by
 refine ajJ hn hx hg ?_;intro Nl EZ M8;have ae8:=zc hbg;have RC:=zc hcm;clear hn hx hg hbg hcm;go_enter func8,ntmps8;go_wp2_with fail;refine(Mt ao n cap 15 xs w Nl EZ RC).mono ?_;rintro ai A4⟨An,rfl,aep,Eu⟩;have uX:=zc Eu;have aeq:=zc aep;clear aep Eu;cases An with
 | false =>
  exact aho
 | true =>
  have abN:n<=15:=Ee;have NL:=zc (aeq rfl).2;go_wp2_with fail;refine(Dl [] _ (M8.below uX) (λi hi=>by cases hi)).mono ?_;rintro ai A4⟨a0V,Au,rfl,ap5,aet,Et⟩;have IY:=ha_ (xi [a0V,Au] [a0V,Au] A4 a0V zee) ap5;have ap6:=zc aet;have EB:=zc (uX.trans (Et.mono uX.size));have aT:=uX.size;clear ap5 aet Et;go_wp2_with fail;refine(Dl [a0V,Au] _ (M8.below EB) IY.lt).mono ?_;rintro ai A4⟨MN,aF,rfl,M1,ap7,Ey⟩;have ap8:=ha_ (zme w a0V MN xs 0 A4) ⟨[MN,aF]++[a0V,Au],[a0V,Au],[MN,aF],⟨IY.news Ey (λa h=>⟨Aw,M1.lt a (List.mem_append_left _ h)⟩),M1,λi hi hj=>by
   have aM:=IY.lt i hi;simp at hj;omega⟩,EB.trans (Ey.mono EB.size),λi hi=>by
   have ij:=ap6.o;have ik:=EB.size;simp at hi;omega⟩
  clear M1 ap7 Ey;go_wp2;go_loopw [5] (λc wr=>∃j:Nat,j<=n/\c=.int .i64 j/\zme w a0V MN xs j wr) (λc _=>n-(intOf c).toNat);case atStart=>exact⟨0,ae,rfl,ap8⟩
  case round =>
   clear ap8;obtain⟨j,hj,rfl,ap9⟩:=hrel;obtain⟨a2h,apa,apb,apc,sy,I1⟩:=ap9;refine ajJ apc sy I1 ?_;intro apd uX I3;clear apc I1;by_cases aB:j<n
   ·refine art ?_;intro x Ac;have ape:=zc Ac;have adO:=ha_ ((vG xs)[j]? = some x.c) (by simp[Ac]);have AF:=List.mem_of_getElem? Ac;have a6C:=zc (EZ.each x AF);have apf:=zc (NL x AF);obtain⟨NP,xb,adN,rfl,a7p,eI⟩:=(EZ.below uX).at Ac;have uY:=zc eI;have A0:=zc x.zew;clear Ac NP eI AF;go_wp2_with (refine wpList_load_mid rfl 40 (.tmp 21) rfl xb (adN+j*7) rfl _ _ uY underlying40 rfl E5 ?_);go_wp2_with fail;refine(Bu x _).mono ?_;rintro ai A4⟨rfl,Eu⟩;have apd:=zc (apd.below Eu);have abp:=uX.size;have uX:=zc (uX.trans (Eu.mono uX.size));have SW:=ha_ (yT a2h A4 x) ⟨WZ (a6C.below uX) (gD a6C I3),by have:=apf.o;omega⟩;clear Eu;go_wp2_with fail;refine(mE apd.a (MM Nl ae) SW (ae8.below uX)).mono ?_;rintro ai w5⟨apg,ap0,adH,rfl,abB,aF,aJ,acg⟩;have aph:=zc (apd.did aF aJ acg);have Tb:=zc (dX zee adO);have api:=zc (NG apd.a.zei x.c);have N6:=ha_ (∀i∈adH++a2h,w.heap.size<=i) (λi hi=>by
     have ik:=uX.size;rcases zaC.1 hi with hi|hi
     ·have:=acg i hi;omega
     ·exact I3 i hi)
    have A3:=ha_ (xA (adH++a2h) w5 (Tol.mk (do1 (doL zee ((vG xs).take j)).1 x.c).2 apg ap0).In) (yq.keep abB (λi hi=>(zaC.1 hi).imp id (λh=>apd.a.lt i h)));have EB:=zc (Ext.bel uX aJ uX.size (λi hi=>I3 i (apd.a.sub i hi)));obtain⟨ej,eg⟩:=n_ ((doL zee ((vG xs).take j)).1);have a0f:=zc eg.symm;rw[<-eg] at aph A3 api Tb |-;obtain⟨An,eI⟩:=n_ (do1 ej x.c);have Rg:=zc eI.symm;rw[<-eI] at aph A3 api Tb |-;have aT:=EB.size;have a5Y:=ha_ (w5.heap.size∉apb/\xb∉apb) ⟨λhi=>by have aM:=apd.b.lt _ (apd.b.sub _ hi);have ij:=aJ.size;omega,λhi=>by
     have aM:=I3.o _ (apd.b.sub _ hi);obtain⟨_,ax,oC,aj,ik,_⟩:=EZ.at ape.o;cases aj;omega⟩
    clear abB aJ acg eg eI;go_wp2_with (refine ar1 ?_);intro A4 aF ED;go_wp2_with (refine aF.zdP rfl rfl rfl (cs:=[.int .i64 An.2.1,.int .i64 An.2.2.1,.slice apg An.2.2.2.length ap0]) rfl zn rfl rfl (ye _ _ _ _ _) ?_);intro w7 aF oE;have IM:=zc (zi ED oE (Nat.le_refl _));have I9:=zc aF;have apj:=zc (aph.below IM);have Ok:=zc (A3.below IM);have IZ:=zc (EB.trans (IM.mono aT));clear ED;by_cases il:An.2.1=0
    ·have EM:=zc il;obtain⟨NP,om,oD,ak,a7p,eI⟩:=(EZ.below IZ).at (i:=j) (x:=x) ape;cases ak;rw[il] at I9 |-;have uY:=zc eI;have apk:xb<w.heap.size:=by obtain⟨_,ax,oC,aj,ik,_⟩:=EZ.at ape.o;cases aj;exact ik
     have iy:=λ(z:zO (a0d w5.heap.size xb) w7.drew)=>(show Blk z.val w5.heap.size [.int .i64 0,.int .i64 An.2.2.1,.slice apg An.2.2.2.length ap0] 35 from z.rel.one.trans I9).cell 0 (.int .i64 0) rfl;have A5:=λ(z:zO (a0d w5.heap.size xb) w7.drew)=>(show Blk z.val w5.heap.size [.int .i64 0,.int .i64 An.2.2.1,.slice apg An.2.2.2.length ap0] 35 from z.rel.one.trans I9).cell 1 (.int .i64 An.2.2.1) rfl;have P6:=λ(z:zO (a0d w5.heap.size xb) w7.drew)=>(show Blk z.val w5.heap.size [.int .i64 0,.int .i64 An.2.2.1,.slice apg An.2.2.2.length ap0] 35 from z.rel.one.trans I9).cell 2 (.slice apg An.2.2.2.length ap0) rfl;have ef:=λ(z:zO (a0d w5.heap.size xb) w7.drew)=>(World.cell?_of_block (w:=w7.drew) (w':=z.val) (a:=⟨xb,adN+j*7,none⟩) z.rel.two).trans (show w7.drew.cell? ⟨xb,adN+j*7,none⟩=some (.int .i64 x.c.kind) from uY 0 _ rfl);have eY:=λ(z:zO (a0d w5.heap.size xb) w7.drew)=>(World.cell?_of_block (w:=w7.drew) (w':=z.val) (a:=⟨xb,adN+j*7+1,none⟩) z.rel.two).trans (uY 1 _ rfl);have eZ:=λ(z:zO (a0d w5.heap.size xb) w7.drew)=>(World.cell?_of_block (w:=w7.drew) (w':=z.val) (a:=⟨xb,adN+j*7+2,none⟩) z.rel.two).trans (uY 2 _ rfl);have ia:=λ(z:zO (a0d w5.heap.size xb) w7.drew)=>(World.cell?_of_block (w:=w7.drew) (w':=z.val) (a:=⟨xb,adN+j*7+3,none⟩) z.rel.two).trans (uY 3 _ rfl);have apl:=λ(z:zO (a0d w5.heap.size xb) w7.drew)=>(World.cell?_of_block (w:=w7.drew) (w':=z.val) (a:=⟨xb,adN+j*7+4,none⟩) z.rel.two).trans (uY 4 _ rfl);have apm:=λ(z:zO (a0d w5.heap.size xb) w7.drew)=>(World.cell?_of_block (w:=w7.drew) (w':=z.val) (a:=⟨xb,adN+j*7+5,none⟩) z.rel.two).trans (uY 5 _ rfl);have apn:=λ(z:zO (a0d w5.heap.size xb) w7.drew)=>(World.cell?_of_block (w:=w7.drew) (w':=z.val) (a:=⟨xb,adN+j*7+6,none⟩) z.rel.two).trans (uY 6 _ rfl);clear il eI NP;go_wp2_with fail;refine yg (a0d w5.heap.size xb) [] [(0,true),(1,true),(2,true),(3,true),(4,true),(5,true),(6,true),(7,true),(8,true),(9,true),(10,false),(11,false),(12,false),(13,true),(14,true)] (a0d.refl _ _) (λ_ _ _=>a0d.trans) e0 e0 ?_;rintro ad7 rfl;iterate 10 refine m1K ?_
     clear iy A5 P6 ef eY eZ ia apl apm apn;have ah:Below w7.heap.size w7 w7.drew:=(Below.refl _ _).drew;refine al8 ?_;intro K hK;refine(Bu x _).mono ?_;rintro ai A4⟨rfl,Eu⟩;have Nb:=I9.lt;have aT:=IZ.size;have ik:a0d w5.heap.size xb w7.drew A4:=⟨Eu.block _ Nb,Eu.block _ (by show xb<w7.heap.size;omega)⟩
     have EB:=zc (ah.trans Eu);go_simp;refine hK _ _ (λ_=>ik) ?_;clear hK K ik Eu ah;have aph:=zc (apj.below EB);have apo:=zc (IZ.trans (EB.mono IZ.size));have SW:=ha_ (yT (adH++a2h) A4 x) ⟨WZ (a6C.below apo) (gD a6C N6),by have:=apf.o;omega⟩;have adP:=ha_ (XM ej) (by rw[<-a0f.o];exact MM Nl (by omega));refine al8 ?_;intro K hK;refine(mE aph.b adP SW (ae8.below apo)).mono ?_;rintro ai Ev⟨Ny,oF,apq,rfl,abB,aF,aJ,acg⟩;rw[Rg.o] at abB aF |-;rw[EM.o];have ag:a0d w5.heap.size xb A4 Ev:=⟨aJ.block _ (Nat.lt_of_lt_of_le Nb EB.size) (λhi=>a5Y.1 hi),aJ.block _ (by have:=apo.size;omega) (λhi=>a5Y.2 hi)⟩
     have apr:=zc ((aph.swap.did aF aJ acg).swap);have IM:=zc (Ext.bel apo aJ apo.size (λi hi=>N6 i (aph.b.sub i hi)));have A3:=zc (((Ok.below EB).at (aJ.up aph.b.sub)).self.2);have I3:=ha_ (∀i∈apq++(adH++a2h),w.heap.size<=i) (λi hi=>by
      rcases zaC.1 hi with hi|hi
      ·have aM:=acg i hi;have ij:=apo.size;omega
      ·exact N6 i hi)
     have A0:=zc abB.lies;have EZ:=ha_ (w5.heap.size<Ev.heap.size) (by have aM:=EB.size;have ij:=aJ.size;omega);go_simp;refine hK _ _ (λ_=>ag) ?_;clear hK K ag aJ acg abB;refine al8 ?_;intro K hK;refine(MS (0,An.2.2.1,An.2.2.2) apg Ny ap0 oF Ev A3 A0).mono ?_;rintro ai IX⟨rfl,Eu⟩;have ik:a0d w5.heap.size xb Ev IX:=⟨Eu.block _ (by have aM:=EB.size;have ij:=apr.b;have:=EZ.o;omega),Eu.block _ (by have:=IM.size;omega)⟩
     have aoY:=zc Eu;go_simp;refine hK _ _ (λ_=>ik) ?_;clear hK K ik Eu;iterate 2 refine m1K ?_
     refine yB ?_;have Pr:=ha_ (zme w a0V MN xs (j+1) IX) ⟨_,_,_,by rw[Tb.o];exact apr.below aoY,IM.trans (aoY.mono IM.size),I3⟩;exact arw
    ·have EM:=zc (api il);have aN:(An.2.1==0)=false:=by rw[beq_eq_false_iff_ne];exact il
     have iy:=λ(z:zO (a0d w5.heap.size xb) w7.drew)=>(show Blk z.val w5.heap.size [.int .i64 An.2.1,.int .i64 An.2.2.1,.slice apg An.2.2.2.length ap0] 35 from z.rel.one.trans I9).cell 0 (.int .i64 An.2.1) rfl;clear il;go_wp2_with fail;refine yg (a0d w5.heap.size xb) [] [(0,true),(1,true),(2,true),(3,true),(4,true),(5,true),(6,true),(7,true),(8,true),(9,true),(10,false),(11,false),(12,false),(13,true),(14,true)] (a0d.refl _ _) (λ_ _ _=>a0d.trans) e0 e0 ?_;rintro ad7 rfl;iterate 4 refine m1K ?_
     iterate 6 refine m1K ?_
     refine MF rfl aa (λK hK=>?_);refine ali ?_;clear hK K;refine MF rfl aa (λK hK=>?_);refine ali ?_;clear hK K;refine MF rfl aa (λK hK=>?_);refine ali ?_;clear hK K;iterate 2 refine m1K ?_
     refine yB ?_;have Pr:=ha_ (zme w a0V MN xs (j+1) w7.drew) ⟨adH++a2h,adH++apa,apb,by rw[Tb.o];have ag:=apj.below (Below.refl _ _).drew;rw[EM.o] at ag |-;exact ag,IZ.trans (((Below.refl _ _).drew).mono IZ.size),N6⟩;exact arw
   ·obtain rfl:j=n:=ae;refine arH ?_;intro ap4;have aep:=mF ((vG xs).take j) 0 zee uS ML;obtain⟨ox,ey,aR,eE,eA⟩:=M0 aep (by rw[zam,zaa,Nl.o];omega);have IT:=zc (MH apd.a);have IU:=zc (MH apd.b);rw[aR] at IT IU;clear aR aep;go_wp2_with fail;refine(IT).mono ?_;rintro ai w7⟨rfl,rfl⟩;go_wp2_with fail;refine(IU).mono ?_;rintro ai A4⟨rfl,rfl⟩;go_wp2_with fail;refine(gE _ (M8.below uX) (ae8.below uX)).mono ?_;rintro ai Ev⟨rfl,MV⟩;have IM:=zc (uX.trans (MV.mono uX.size));clear MV;go_wp2;go_ret;exact ak9 IM


/- Laws. -/
import Derived.Test.YtkochfajaaiekaaGreatDoorY35
import Derived.Test.YtkochfajaaiekaaGreatDoorY28
set_option linter.all false
set_option maxHeartbeats 16000000
set_option maxRecDepth 100000
open Int renaming tmod_eq_emod_of_nonneg->ZQ
open List renaming getElem?_map->zay,length_drop->zan,length_map->zaa,mem_append->zaC,mem_append_left->zaP,mem_append_right->zaE,mem_map->zaz,mem_of_getElem?->zad
open Nat renaming le_trans->zat,lt_of_lt_of_le->za1
open Option renaming map_eq_some_iff->Y2,mem_toList->Zm
namespace Go.Proofs.YtkochfajaaiekaaGreatDoor
open Go.Proofs.Tryz
open Go.Proofs.Tryz renaming prog->pgm
variable{ts:List Tol}{j:Nat}{t:Tol}{u:Value}{w:World}
section
open RowKit
attribute [local irreducible] zA zG zH zE zR
def NC(ts:List Tol):∀v∈sr ts,v.oneCell'=true:=by intro v aL;obtain⟨Mv,aR,aL⟩:=List.mem_flatten.1 aL;obtain⟨ek,_,rfl⟩:=zaz.1 aR;exact ek.zfa v aL
def Na(a b:List Tol):sr (a++b)=sr a++sr b:=by simp[sr]
def NK(h:ts[j]? = some t)(i:Nat)(hu:t.vals[i]? = some u):(sr ts)[3*j+i]? = some u:=by
 have aO:i<3:=by
  have:=(List.getElem?_eq_some_iff.1 hu).1;exact this
 rw[<-hu];exact a04 3 (ts.map Tol.vals) j i t.vals (by intro aK aL;obtain⟨t,_,rfl⟩:=zaz.1 aL;rfl) As aO
def Mv{g:Nat}(hl:zr w (some ⟨g,0,none⟩) (sr ts))(h:ts[j]? = some t)(i:Nat)(hu:t.vals[i]? = some u):w.cell? ⟨g,j*3+i,none⟩=some u:=by rw[Nat.mul_comm j 3];exact Zz hl (3*j+i) (NK h i hu)
def ND(w:World)(b1 b2 b3:Nat)(bx bY:Nat)(n:Nat)(x y:Value)(tx ty:List Tol)(sj s1 s2:yN)(wr:World):Prop :=
 ∃F Oa Ob Oc,MD w F Oc Oa Ob b3 b1 b2 sj s1 s2 wr/\ME bx F (Oa++Ob++Oc) wr n x tx/\ME bY F (Oa++Ob++Oc) wr n y ty
def Nv{w':World}{v:Value}(hg:w.grownBy w' v.ownBlock):Ext v.ownBlock.toList w w':=⟨hg.os,hg.tape,hg.output,hg.size,λk hk hn=>hg.block k hk (λe=>hn (by rw[<-e];simp))⟩
def bruns_law(ao:OA)(n cap:Nat)(xs:List Opr)(p:Nat)(w:World)(hn:xs.length=n)(hx:wN w ao xs)(hnc:n<=cap)(hcm:cap<=maxLen)(hp:p<256)(hg:zeT w)(hbg:yi w):C_b 7 #[.slice ao n cap,.int .u8 p] w (.bool true):=by
 obtain⟨aS,aO,aT,aU,aV⟩:=info_parts dY;refine aeW ?_;intro NK;refine ajJ hn hx hg ?_;intro Nl EZ M8;have ae8:=zc hbg;have RC:=ha_ (n<=cap/\n<=maxLen) ⟨hnc,ae⟩;clear hn hx hg hbg hcm hnc aO aT aU aV;go_enter func7,ntmps7;go_wp2_with fail;refine(Mt ao n cap 15 xs w Nl EZ RC.2).mono ?_;rintro ai A4⟨An,rfl,aep,Eu⟩;have uX:=zc Eu;have aeq:=zc aep;clear aep Eu;cases An with
 | false =>
  exact aho
 | true =>
 have abN:n<=15:=Ee;have NL:=ha_ (∀x∈xs,x.c.key.length<=1000/\x.c.b.length<=1000/\x.c.name.length<=1000) (λx hx=>by have:=(aeq rfl).2 x hx;omega);obtain⟨k,aQ⟩:=n_ (p%(n+1));have a6B:k<=n:=by have:p%(n+1)<n+1:=Nat.mod_lt _ (by omega);omega
 have aj:(p:Int).tmod ((n:Int)+1)=(k:Int):=by rw[aQ];exact ZQ (by omega)
 have aj:(p:Int).tmod (((n+1:Nat)):Int)=(k:Int):=by rw[aQ];exact ZQ (by omega)
 clear aQ;go_wp2_with fail;refine(Dl [] _ (M8.below uX) (λi hi=>by cases hi)).mono ?_;rintro ai A4⟨ax,aM,rfl,aF,oG,Et⟩;have EB:=ha_ (xi [ax,aM] [ax,aM] A4 ax zee) aF;have My:=ha_ (w.heap.size<=ax/\w.heap.size<=aM) (by have:=uX.size;omega);have uX:=zc (uX.trans (Et.mono uX.size));clear oG Et;go_wp2_with fail;refine(Dl [ax,aM] _ (M8.below uX) EB.lt).mono ?_;rintro ai A4⟨om,ij,rfl,aF,oG,Ey⟩;have IM:=zc aF;have apW:=zc oG;have IZ:=zc Ey;clear oG Ey;go_wp2_with fail;refine(Dl ([om,ij]++[ax,aM]) _ (M8.below (uX.trans (IZ.mono uX.size))) IM.lt).mono ?_;rintro ai A4⟨oq,ik,rfl,aF,oG,Eu⟩;have A3:=zc (MD.make EB My uX IM apW IZ aF oG Eu);clear oG Eu;generalize [oq,ik]++([om,ij]++[ax,aM])=a2h at*;generalize [ax,aM]=apa at*;generalize [om,ij]=apb at*;generalize [oq,ik]=apX at*;go_wp2_with fail;refine(G9 ao n cap xs _ Nl (EZ.below A3.bel) ae).mono ?_;rintro ai Ev⟨aK,rfl,I4,M6⟩;obtain⟨S0,acy,rfl,_,_,_⟩:=zz I4;have uY:=zc (Dt A3.a UH ae A3.bel A3.new Nl EZ.each NL ae8 I4 M6);have A3:=zc (A3.later M6);clear M6;go_wp2_with fail;refine uY.mono ?_;rintro ai A4⟨apY,apC,acJ,adZ,rfl,a5X,aF,adX,_,_⟩;obtain⟨apZ,aq0,rfl,aq1,SZ,_⟩:=zz a5X.own;have aq2:=ha_ (ME Ev.heap.size apC (acJ++apb++apX) A4 n (.slice apZ n aq0) adZ) ⟨a5X.own,λg hg=>⟨(a5X.blk g hg).1,λhi=>by
  have aM:=(a5X.own.lt g hg).1;simp only[zaC] at hi;rcases hi with(hi|hi)|hi
  ·exact(a5X.blk g hg).2 hi
  ·have:=A3.b.lt g (A3.b.sub g hi);omega
  ·have:=A3.c.lt g (A3.c.sub g hi);omega⟩,a5X.outs⟩
 have A3:=zc (A3.did aF a5X.ext a5X.zlQ a5X.zl1 a5X.zlP);have Oj:=zc adX;clear a5X adX;have N0:=λ(w':World)=>Nu (P:=pgm) w' 22 40 7 underlying22 MJ ao n cap k (by have:=RC.1;omega);have aq3:=λ(w':World)=>M9 (P:=pgm) w' 22 40 7 underlying22 MJ ao n cap k a6B RC.1;go_wp2_with fail;refine yg (λ_ _=>True) [] [(0,true),(1,true),(2,true),(3,true),(6,true),(7,true),(8,true),(9,true),(4,false),(5,false),(10,false),(11,false),(12,false),(13,true)] (λ_=>trivial) (λ_ _ _ _ _=>trivial) e0 e0 ?_;rintro ad7 rfl;iterate 8 refine m1K ?_
 clear N0 aq3;have A3:=zc (A3.later (Below.refl _ _).drew);have aq2:=zc (aq2.later (Below.refl _ _).drew);generalize Am:A4.drew=A4 at*;clear Am;refine al8 ?_;intro K hK;have ab7:=ha_ (wN w (Qw ao cap 0 7) (xs.take k)) (by have:=EZ.cut (cap:=cap) (by have:=Nl.o;have:=RC.1;omega) 0 k;simpa using this);have aq4:=ha_ (wN w (Qw ao cap k 7) (xs.drop k)) (by have:=EZ.cut (cap:=cap) (by have:=Nl.o;have:=RC.1;omega) k n;rwa [List.take_of_length_le (by rw[zan,Nl.o];omega)] at this);have Pk:=ha_ ((xs.take k).length=k) (by rw[List.length_take,Nl.o];omega);have aq5:=ha_ ((xs.drop k).length=n-k) l4;refine(G9 (Qw ao cap 0 7) k cap (xs.take k) _ Pk (ab7.below A3.bel) ae).mono ?_;rintro ai IX⟨aK,rfl,RY,Eu⟩;obtain⟨aa3,aq6,rfl,_,_,_⟩:=zz RY;have uY:=zc (Dt A3.b UH (m:=0) ae A3.bel A3.new Pk ab7.each (λx hx=>NL x (List.mem_of_mem_take hx)) ae8 RY Eu);have A3:=zc (A3.later Eu);have aq2:=zc (aq2.later Eu);clear RY Eu;go_simp;refine hK _ _ (λ_=>trivial) ?_;clear hK K;refine al8 ?_;intro K hK;refine uY.mono ?_;rintro ai A4⟨aK,apC,apD,ek,rfl,a5X,aF,aW,_,_⟩;obtain⟨eT,iy,rfl,_,_,_⟩:=zz a5X.own;have a7j:=ha_ (ME IX.heap.size apC (acJ++apD++apX) A4 k (.slice eT k iy) ek) ⟨a5X.own,λg hg=>⟨(a5X.blk g hg).1,λhi=>by
  have aM:=(a5X.own.lt g hg).1;simp only[zaC] at hi;rcases hi with(hi|hi)|hi
  ·have:=A3.a.lt g (A3.a.sub g hi);omega
  ·exact(a5X.blk g hg).2 hi
  ·have:=A3.c.lt g (A3.c.sub g hi);omega⟩,a5X.outs⟩
 have apv:=ha_ (∀g,Value.ownBlock (.slice apZ n aq0)=some g->g<IX.heap.size) (λg hg=>(aq2.own.lt g hg).2);have aq2:=ha_ (ME Ev.heap.size apC (acJ++apD++apX) A4 n (.slice apZ n aq0) adZ) (aq2.ext a5X.ext A3.b.sub (λg hg hi=>(aq2.blk g hg).2 Ax) a5X.zlQ a5X.zl1 (λi hi=>by
  simp only[zaC] at hi |-;rcases hi with(hi|hi)|hi
  ·exact .inl (.inl (.inl hi))
  ·exact(a5X.zlP i hi).imp (λh=>.inl (.inr h)) id
  ·exact .inl (.inr hi)))
 have A3:=zc (A3.rot.did aF a5X.ext a5X.zlQ a5X.zl1 a5X.zlP).rot.rot;have Ok:=zc aW;have Ts:=zc a5X.ext.size;clear a5X aW;go_simp;refine hK _ _ (λ_=>trivial) ?_;clear hK K;refine al8 ?_;intro K hK;refine(G9 (Qw ao cap k 7) (n-k) (cap-k) (xs.drop k) _ aq5 (aq4.below A3.bel) ae).mono ?_;rintro ai A4⟨aK,rfl,a1C,Eu⟩;obtain⟨aq7,aq8,rfl,_,_,_⟩:=zz a1C;have uY:=zc (Dt A3.b (m:=k) (by have:=mF (vG (xs.take k)) 0 zee uS UH;rw[zaa,Pk.o,Nat.zero_add] at this;exact this) ae A3.bel A3.new aq5 aq4.each (λx hx=>NL x (List.mem_of_mem_drop hx)) ae8 a1C Eu);have A3:=zc (A3.later Eu);have aq2:=zc (aq2.later Eu);have a7j:=zc (a7j.later Eu);have Ts:=zc (zat Ts.o Eu.size);clear a1C Eu;go_simp;refine hK _ _ (λ_=>trivial) ?_;clear hK K;refine al8 ?_;intro K hK;refine uY.mono ?_;rintro ai MF⟨aK,aq9,aqa,iJ,rfl,a5X,I0,aW,_,_⟩;obtain⟨eU,A5,rfl,_,_,_⟩:=zz a5X.own;have aqb:∀i∈acJ++aqa++apX,i∈acJ++apD++apX\/A4.heap.size<=i:=λi hi=>by
  simp only[zaC] at hi |-;rcases hi with(hi|hi)|hi
  ·exact .inl (.inl (.inl hi))
  ·exact(a5X.zlP i hi).imp (λh=>.inl (.inr h)) id
  ·exact .inl (.inr hi)
 have uY:=ha_ (ME A4.heap.size aq9 (acJ++aqa++apX) MF (n-k) (.slice eU (n-k) A5) iJ) ⟨a5X.own,λg hg=>⟨(a5X.blk g hg).1,λhi=>by
  have aM:=(a5X.own.lt g hg).1;simp only[zaC] at hi;rcases hi with(hi|hi)|hi
  ·have:=A3.a.lt g (A3.a.sub g hi);omega
  ·exact(a5X.blk g hg).2 hi
  ·have:=A3.c.lt g (A3.c.sub g hi);omega⟩,a5X.outs⟩
 have aq2:=ha_ (ME Ev.heap.size aq9 (acJ++aqa++apX) MF n (.slice apZ n aq0) adZ) (aq2.ext a5X.ext A3.b.sub (λg hg hi=>(aq2.blk g hg).2 Ax) a5X.zlQ a5X.zl1 aqb);have a7j:=ha_ (ME IX.heap.size aq9 (acJ++aqa++apX) MF k (.slice eT k iy) ek) (a7j.ext a5X.ext A3.b.sub (λg hg hi=>(a7j.blk g hg).2 Ax) a5X.zlQ a5X.zl1 aqb);have A3:=zc (A3.rot.did I0 a5X.ext a5X.zlQ a5X.zl1 a5X.zlP).rot.rot;have aqc:=zc aW;have Ts:=zc (zat Ts.o a5X.ext.size);clear a5X I0 aW aqb;go_simp;refine hK _ _ (λ_=>trivial) ?_;clear hK K;refine aeR ?_;intro K hK;refine MX (.tmp 33) (.tmp 39) 29 rfl IX.heap.size 35 aS (.agg yy.toArray) 3 40 underlying29 NK.1 NK.2.1 NK.2.2.1 NK.2.2.2 rfl bd _ k (sr ek) rfl a7j.own eU (n-k) A5 (sr iJ) rfl uY.own.1 (zr.zef uY.own) (NC iJ) ew ae Ts (λv12 w12 zlY hg12 zlZ=>?_);refine hK _ _ (λ_=>trivial) ?_;clear hK K;rw[show k+(n-k)=n by omega,<-Na] at zlY;have aJ:=Nv hg12;have I1:∀i∈v12.ownBlock.toList++aq9,i∈aq9\/(MF.heap.size<=i/\i<w12.heap.size):=λi hi=>by
  rcases zaC.1 hi with hi|hi
  ·have ag:=zlZ i (Zm.1 hi);rcases ag.1 with h|h
   ·exact .inl (a7j.blk i h).1
   ·exact .inr ⟨ae,ag.2⟩
  ·exact .inl hi
 have aqd:∀i∈v12.ownBlock.toList++aq9,i∈aq9\/MF.heap.size<=i:=λi hi=>(I1 i hi).imp id And.left;have aqe:∀d∈(Value.ownBlock (.slice eT k iy)).toList,d∈aq9:=λd hd=>(a7j.blk d (Zm.1 hd)).1;have N3:∀i∈aq9,i∈v12.ownBlock.toList++aq9:=λi hi=>zaE _ hi;have aqf:=ha_ (ME IX.heap.size (v12.ownBlock.toList++aq9) (acJ++aqa++apX) w12 n v12 (ek++iJ)) ⟨zlY,λg hg=>⟨zaP _ (by simp[hg]),λhi=>by
  have ag:=zlZ g hg;rcases ag.1 with h|h
  ·exact(a7j.blk g h).2 hi
  ·simp only[zaC] at hi;rcases hi with(hi|hi)|hi
   ·have:=A3.a.lt g (A3.a.sub g hi);omega
   ·have:=A3.b.lt g (A3.b.sub g hi);omega
   ·have:=A3.c.lt g (A3.c.sub g hi);omega⟩,λt ht=>(zaC.1 ht).elim (λh=>wk (a7j.outs t h) aJ aqe aqd) (λh=>wk (uY.outs t h) aJ aqe aqd)⟩
 have aq2:=zc (aq2.ext (F':=v12.ownBlock.toList++aq9) (O':=acJ++aqa++apX) aJ aqe (λg hg hi=>by
  have aM:=apv.o g hg;have ij:=(a7j.own.lt g (Zm.1 hi)).1;omega) aqd N3 (λi hi=>.inl hi))
 have A3:=zc (A3.apart aJ (λd hd=>by
  have ag:=a7j.blk d (Zm.1 hd);simp only[zaC,not_or] at ag;exact⟨ag.1,ag.2.1.1,ag.2.1.2,ag.2.2⟩) I1 N3)
 have aqg:vG (xs.take k)=(vG xs).take k:=List.map_take;have adW:vG (xs.drop k)=(vG xs).drop k:=List.map_drop;have aqh:=MY (vG xs) k zee;rw[aqg] at Ok aqc A3;rw[adW] at aqc A3;rw[aqh.1] at A3;have a0h:=ha_ ((ek++iJ).map Tol.t=(doL zee (vG xs)).2) (by rw[List.map_append,Ok.o,aqc.o];exact aqh.2);clear zlY hg12 zlZ aJ I1 aqd aqe N3 aqg adW aqh;generalize ek++iJ=aqi at*;generalize v12.ownBlock.toList++aq9=aqj at*;obtain⟨aqk,aql,rfl,_,_,_⟩:=zz aqf.own;go_simp;refine m1K ?_;refine yB ?_;have Pr:=ha_ (ND w ax om oq Ev.heap.size IX.heap.size n (.slice apZ n aq0) (.slice aqk n aql) adZ aqi (doL zee ((vG xs).take 0)).1 (doL zee (vG xs)).1 (doL zee (vG xs)).1 w12) ⟨aqj,acJ,aqa,apX,A3.rot.rot,aq2,aqf⟩;generalize Ev.heap.size=Nc at*;generalize IX.heap.size=aqm at*;go_wp2;go_loopw [11] (λc wr=>∃j:Nat,j<=n/\c=.int .i64 j/\Hid (ND w ax om oq Nc aqm n (.slice apZ n aq0) (.slice aqk n aql) adZ aqi (doL zee ((vG xs).take j)).1 (doL zee (vG xs)).1 (doL zee (vG xs)).1 wr)) (λc _=>n-(intOf c).toNat);case atStart=>exact⟨0,ae,rfl,Pr⟩
 case round =>
  clear Pr;obtain⟨j,aA,rfl,Pr⟩:=hrel;obtain⟨a2h,apa,apb,apX,ht,aqn,aqo⟩:=Pr;refine ajJ ht aqn aqo ?_;intro A3 aq2 aqf;clear ht aqn aqo;by_cases aB:j<n
  ·refine art ?_;intro x Ac;have AF:=zad Ac;have aC:(vG xs)[j]? = some x.c:=by simp[Ac]
   have Tb:=zc (dX zee aC);have NS:=Nm (vG xs) zee aC;obtain⟨iD,a1D,aj⟩:∃T,adZ[j]? = some T/\T.t=(do1 (doL zee ((vG xs).take j)).1 x.c).2:=by
    rw[<-Oj.o,zay] at NS;exact Y2.1 NS
   obtain⟨aeh,aqp,ak⟩:∃T,aqi[j]? = some T/\T.t=(do1 (doL zee ((vG xs).take j)).1 x.c).2:=by
    rw[<-a0h.o,zay] at NS;exact Y2.1 NS
   obtain⟨An,eI⟩:=n_ (do1 (doL zee ((vG xs).take j)).1 x.c);have Rg:=zc eI.symm;rw[<-eI] at aj ak;obtain⟨ek,eT,Pp⟩:=iD;obtain⟨ek,eU,TC⟩:=aeh;simp only at aj ak;subst aj;subst ak;obtain⟨gx,aqq,aqr,_,aqs⟩:=aq2.own.form ae;cases aqr;obtain⟨gy,aqt,aqu,_,aqv⟩:=aqf.own.form ae;cases aqu;have a6C:=zc (EZ.each x AF);have apf:=zc (NL x AF);obtain⟨NP,xb,adN,rfl,a7p,aqw⟩:=(EZ.below A3.bel).at Ac;have apk:xb<w.heap.size:=by obtain⟨_,ot,oC,aj,ag,_⟩:=EZ.at Ac;cases aj;exact ag
   have a5Y:=ha_ (∀i∈[gx,gy,xb],i<wr.heap.size/\i∉apX) (λi hi=>by
    have aH:=(aq2.blk gx rfl).2;have et:=(aqf.blk gy rfl).2;simp only[zaC,not_or] at aH et;simp only[List.mem_cons,List.not_mem_nil,or_false] at hi;rcases hi with rfl|rfl|rfl
    ·exact⟨aqs,aH.2⟩
    ·exact⟨aqv,et.2⟩
    ·exact⟨a7p,λhi=>by have:=A3.new _ (A3.a.sub _ hi);omega⟩)
   have aqx:=zc (zr.zef aq2.own);have apJ:=zc (zr.zef aqf.own);have I9:=zc (aq2.outs _ (zad a1D));have TQ:=zc (aqf.outs _ (zad aqp));have ox:=λ(z:zO (Ms [gx,gy,xb]) wr.drew)=>(World.cell?_of_block (w:=wr.drew) (w':=z.val) (a:=⟨gx,j*3,none⟩) (z.rel gx ab)).trans (Mv aqx a1D 0 (u:=.int .i64 An.2.1) rfl);have oy:=λ(z:zO (Ms [gx,gy,xb]) wr.drew)=>(World.cell?_of_block (w:=wr.drew) (w':=z.val) (a:=⟨gx,j*3+1,none⟩) (z.rel gx ab)).trans (Mv aqx a1D 1 (u:=.int .i64 An.2.2.1) rfl);have aay:=λ(z:zO (Ms [gx,gy,xb]) wr.drew)=>(World.cell?_of_block (w:=wr.drew) (w':=z.val) (a:=⟨gx,j*3+2,none⟩) (z.rel gx ab)).trans (Mv aqx a1D 2 (u:=.slice eT An.2.2.2.length Pp) rfl);have ey:=λ(z:zO (Ms [gx,gy,xb]) wr.drew)=>(World.cell?_of_block (w:=wr.drew) (w':=z.val) (a:=⟨gy,j*3,none⟩) (z.rel gy ab)).trans (Mv apJ aqp 0 (u:=.int .i64 An.2.1) rfl);have oz:=λ(z:zO (Ms [gx,gy,xb]) wr.drew)=>(World.cell?_of_block (w:=wr.drew) (w':=z.val) (a:=⟨gy,j*3+1,none⟩) (z.rel gy ab)).trans (Mv apJ aqp 1 (u:=.int .i64 An.2.2.1) rfl);have oA:=λ(z:zO (Ms [gx,gy,xb]) wr.drew)=>(World.cell?_of_block (w:=wr.drew) (w':=z.val) (a:=⟨gy,j*3+2,none⟩) (z.rel gy ab)).trans (Mv apJ aqp 2 (u:=.slice eU An.2.2.2.length TC) rfl);have ef:=λ(z:zO (Ms [gx,gy,xb]) wr.drew)=>(World.cell?_of_block (w:=wr.drew) (w':=z.val) (a:=⟨xb,adN+j*7,none⟩) (z.rel xb ab)).trans (show wr.drew.cell? ⟨xb,adN+j*7,none⟩=some (.int .i64 x.c.kind) from aqw 0 _ rfl);have eY:=λ(z:zO (Ms [gx,gy,xb]) wr.drew)=>(World.cell?_of_block (w:=wr.drew) (w':=z.val) (a:=⟨xb,adN+j*7+1,none⟩) (z.rel xb ab)).trans (aqw 1 _ rfl);have eZ:=λ(z:zO (Ms [gx,gy,xb]) wr.drew)=>(World.cell?_of_block (w:=wr.drew) (w':=z.val) (a:=⟨xb,adN+j*7+2,none⟩) (z.rel xb ab)).trans (aqw 2 _ rfl);have ia:=λ(z:zO (Ms [gx,gy,xb]) wr.drew)=>(World.cell?_of_block (w:=wr.drew) (w':=z.val) (a:=⟨xb,adN+j*7+3,none⟩) (z.rel xb ab)).trans (aqw 3 _ rfl);have apl:=λ(z:zO (Ms [gx,gy,xb]) wr.drew)=>(World.cell?_of_block (w:=wr.drew) (w':=z.val) (a:=⟨xb,adN+j*7+4,none⟩) (z.rel xb ab)).trans (aqw 4 _ rfl);have apm:=λ(z:zO (Ms [gx,gy,xb]) wr.drew)=>(World.cell?_of_block (w:=wr.drew) (w':=z.val) (a:=⟨xb,adN+j*7+5,none⟩) (z.rel xb ab)).trans (aqw 5 _ rfl);have apn:=λ(z:zO (Ms [gx,gy,xb]) wr.drew)=>(World.cell?_of_block (w:=wr.drew) (w':=z.val) (a:=⟨xb,adN+j*7+6,none⟩) (z.rel xb ab)).trans (aqw 6 _ rfl);have PK:=zc (zad a1D);have Ok:=zc a1D;have adO:=zc Ac;clear aqw NP NS a1D aqp aqs aqv aC AF eI;go_wp2_with fail;refine yg (Ms [gx,gy,xb]) [] [(0,true),(1,true),(2,true),(3,true),(4,true),(5,true),(6,true),(7,true),(8,false),(9,true),(10,true),(11,true),(12,true),(13,true),(14,true),(15,true),(16,true),(17,true),(18,true),(19,true),(20,false),(21,false),(22,false),(23,true),(24,true)] (Ms.refl _) (λ_ _ _=>Ms.trans) e0 e0 ?_;rintro ad7 rfl;iterate 8 refine m1K ?_
   clear ox oy aay ey oz oA ef eY eZ ia apl apm apn;refine al8 ?_;intro K hK;refine(MS An.2 eT eU Pp TC _ (I9.self.2.below (Below.refl _ _).drew) (TQ.self.2.below (Below.refl _ _).drew)).mono ?_;rintro ai w14⟨rfl,a07⟩;have ag:Ms [gx,gy,xb] wr.drew w14:=Ms.of_below a07 (λi hi=>(a5Y i hi).1);have NI:=ha_ (Below wr.heap.size wr w14) (((Below.refl _ _).drew).trans a07);go_simp;refine hK _ _ (λ_=>ag) ?_;clear hK K ag a07;have A3:=zc (A3.later NI);have aq2:=zc (aq2.later NI);have aqf:=zc (aqf.later NI);have Ts:=zc NI.size;have aqx:=zc (zr.zef aq2.own);obtain⟨_,ot,oC,aj,_,aqw⟩:=(EZ.below A3.bel).at adO.o;cases aj;have ox:=λ(z:zO (Ms [gx,gy,xb]) w14)=>(World.cell?_of_block (w:=w14) (w':=z.val) (a:=⟨gx,j*3,none⟩) (z.rel gx ab)).trans (Mv aqx Ok 0 (u:=.int .i64 An.2.1) rfl);have oy:=λ(z:zO (Ms [gx,gy,xb]) w14)=>(World.cell?_of_block (w:=w14) (w':=z.val) (a:=⟨gx,j*3+1,none⟩) (z.rel gx ab)).trans (Mv aqx Ok 1 (u:=.int .i64 An.2.2.1) rfl);have aay:=λ(z:zO (Ms [gx,gy,xb]) w14)=>(World.cell?_of_block (w:=w14) (w':=z.val) (a:=⟨gx,j*3+2,none⟩) (z.rel gx ab)).trans (Mv aqx Ok 2 (u:=.slice eT An.2.2.2.length Pp) rfl);have ef:=λ(z:zO (Ms [gx,gy,xb]) w14)=>(World.cell?_of_block (w:=w14) (w':=z.val) (a:=⟨xb,adN+j*7,none⟩) (z.rel xb ab)).trans (show w14.cell? ⟨xb,adN+j*7,none⟩=some (.int .i64 x.c.kind) from aqw 0 _ rfl);have eY:=λ(z:zO (Ms [gx,gy,xb]) w14)=>(World.cell?_of_block (w:=w14) (w':=z.val) (a:=⟨xb,adN+j*7+1,none⟩) (z.rel xb ab)).trans (aqw 1 _ rfl);have eZ:=λ(z:zO (Ms [gx,gy,xb]) w14)=>(World.cell?_of_block (w:=w14) (w':=z.val) (a:=⟨xb,adN+j*7+2,none⟩) (z.rel xb ab)).trans (aqw 2 _ rfl);have ia:=λ(z:zO (Ms [gx,gy,xb]) w14)=>(World.cell?_of_block (w:=w14) (w':=z.val) (a:=⟨xb,adN+j*7+3,none⟩) (z.rel xb ab)).trans (aqw 3 _ rfl);have apl:=λ(z:zO (Ms [gx,gy,xb]) w14)=>(World.cell?_of_block (w:=w14) (w':=z.val) (a:=⟨xb,adN+j*7+4,none⟩) (z.rel xb ab)).trans (aqw 4 _ rfl);have apm:=λ(z:zO (Ms [gx,gy,xb]) w14)=>(World.cell?_of_block (w:=w14) (w':=z.val) (a:=⟨xb,adN+j*7+5,none⟩) (z.rel xb ab)).trans (aqw 5 _ rfl);have apn:=λ(z:zO (Ms [gx,gy,xb]) w14)=>(World.cell?_of_block (w:=w14) (w':=z.val) (a:=⟨xb,adN+j*7+6,none⟩) (z.rel xb ab)).trans (aqw 6 _ rfl);clear aqw;iterate 11 refine m1K ?_
   clear ox oy aay ef eY eZ ia apl apm apn;refine al8 ?_;intro K hK;refine(Bu x _).mono ?_;rintro ai A4⟨rfl,aqy⟩;have ag:Ms [gx,gy,xb] w14 A4:=Ms.of_below aqy (λi hi=>za1 (a5Y i hi).1 Ts);have A3:=zc (A3.later aqy);have aq2:=zc (aq2.later aqy);have aqf:=zc (aqf.later aqy);have Ts:=zc (zat Ts.o aqy.size);go_simp;refine hK _ _ (λ_=>ag) ?_;clear hK K ag aqy;refine al8 ?_;intro K hK;refine(mE A3.a (MM Nl ae) (UI a6C A3.bel A3.new apf) (ae8.below A3.bel)).mono ?_;rintro ai Ev⟨Ny,oF,adH,rfl,abB,EK,ap0,acg⟩;rw[Rg.o] at abB EK |-;have ag:Ms [gx,gy,xb] A4 Ev:=Ms.zmc ap0 (λi hi=>⟨za1 (a5Y i hi).1 Ts,(a5Y i hi).2⟩);have I1:∀i∈adH++a2h,i∈a2h\/A4.heap.size<=i:=λi hi=>(zaC.1 hi).elim (λh=>.inr (acg i h)) .inl;have aqz:∀i∈adH++apX,i∈apX\/A4.heap.size<=i:=λi hi=>(zaC.1 hi).elim (λh=>.inr (acg i h)) .inl;have aqb:∀i∈apa++apb++(adH++apX),i∈apa++apb++apX\/A4.heap.size<=i:=λi hi=>by
    rcases zaC.1 hi with hi|hi
    ·exact .inl (zaP _ hi)
    ·exact(aqz i hi).imp (λh=>zaE _ h) id
   have aq2:=zc (aq2.ext ap0 A3.a.sub (λg hg hi=>(aq2.blk g hg).2 (zaE _ hi)) I1 (λi hi=>zaE _ hi) aqb);have aqf:=zc (aqf.ext ap0 A3.a.sub (λg hg hi=>(aqf.blk g hg).2 (zaE _ hi)) I1 (λi hi=>zaE _ hi) aqb);have A3:=zc (A3.did EK ap0 I1 (λi hi=>zaE _ hi) aqz);have Ts:=zc (zat Ts.o ap0.size);have A0:=zc abB.lies;go_simp;refine hK _ _ (λ_=>ag) ?_;clear hK K ag EK ap0 acg abB I1 aqz aqb;refine al8 ?_;intro K hK;refine(MS An.2 eT Ny Pp oF Ev (aq2.outs _ PK).self.2 A0).mono ?_;rintro ai A4⟨rfl,Rt⟩;have ag:Ms [gx,gy,xb] Ev A4:=Ms.of_below Rt (λi hi=>za1 (a5Y i hi).1 Ts);have Pr:=ha_ (ND w ax om oq Nc aqm n (.slice (some ⟨gx,0,none⟩) n aq0) (.slice (some ⟨gy,0,none⟩) n aql) adZ aqi (doL zee ((vG xs).take (j+1))).1 (doL zee (vG xs)).1 (doL zee (vG xs)).1 A4) ⟨_,_,_,_,by rw[Tb.o,Rg.o];exact A3.later Rt,aq2.later Rt,aqf.later Rt⟩;go_simp;refine hK _ _ (λ_=>ag) ?_;clear hK K ag Rt;iterate 2 refine m1K ?_
   refine yB ?_;exact arw
  ·obtain rfl:j=n:=ae;refine arH ?_;intro ap4;have aep:=mF (vG xs) 0 zee uS ML;obtain⟨p,ey,aR,hp,eA⟩:=M0 aep (by rw[zaa,Nl.o];omega);have IT:=zc (MH A3.b);have IU:=zc (MH A3.c);rw[aR] at IT IU;clear aR aep;go_wp2_with fail;refine(IT).mono ?_;rintro ai A4⟨rfl,rfl⟩;go_wp2_with fail;refine(IU).mono ?_;rintro ai A4⟨rfl,rfl⟩;go_wp2_with fail;refine(gE _ (M8.below A3.bel) (ae8.below A3.bel)).mono ?_;rintro ai A4⟨rfl,ap0⟩;have uX:=zc (A3.bel.trans (ap0.mono A3.bel.size));clear ap0;exact aho


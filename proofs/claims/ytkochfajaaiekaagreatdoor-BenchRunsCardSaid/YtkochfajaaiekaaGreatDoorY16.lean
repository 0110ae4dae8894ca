/- Laws. -/
import Derived.Test.YtkochfajaaiekaaGreatDoorY15
set_option linter.all false
set_option maxHeartbeats 16000000
set_option maxRecDepth 100000
open List renaming append_nil->za5,drop_append->zbn,drop_eq_nil_of_le->zak,drop_zero->zbH,eq_nil_of_length_eq_zero->zaI,getD_eq_getElem?_getD->zcG,getElem?_eq_none->zaf,getElem?_map->zay,getElem?_range->zbj,length_append->zac,length_drop->zan,length_map->zaa,length_set->zav,map_append->zaD,mem_cons->zau,mem_of_getElem?->zad,mem_singleton->zbE,nil_append->zaB,not_mem_nil->zbr,take_add_one->zbi,take_append_of_le_length->zaL,take_of_length_le->zai
open Nat renaming le_refl->zab,le_trans->zat,lt_of_lt_of_le->za1
open Option renaming map_some->zbM,some.inj->zaW
open UInt64 renaming ofNat->zae
open UInt8 renaming ofNat->zaq,toNat_ofNat_of_lt'->zaO
namespace Go.Proofs.YtkochfajaaiekaaGreatDoor
open Go.Proofs.Tryz
open Go.Proofs.Tryz renaming prog->pgm
open RowKit
section
variable{P:Program}{ops:Array Oper}{Q:Exit->Act->World->Prop}
def zT.make(i:Nat)(d:Tmp)(e:TypeId)(vs:Lb_):zT:=⟨i,d,.cells vs.toArray e,λn=>.slice (some ⟨n,0,none⟩) vs.length vs.length⟩
@[go_sem,simp] theorem zki(i:Nat)(d:Tmp)(t:TypeId)(vs:Lb_):(zT.make i d t vs).dst=d:=rfl
@[go_sem,simp] theorem zkj(i:Nat)(d:Tmp)(t:TypeId)(vs:Lb_)(n:Nat):(zT.make i d t vs).val n=.slice (some ⟨n,0,none⟩) vs.length vs.length:=rfl
@[go_sem,simp] theorem zkk(i:Nat)(d:Tmp)(t:TypeId)(vs:Lb_):(zT.make i d t vs).obj=.cells vs.toArray t:=rfl
end
section
attribute [local irreducible] zA zG zH zE zR
def pH(q:Nat)(alg:Int)(ao:OA)(n cap:Nat)(w:World)(h1:alg≠1)(h2:alg≠2)(h3:alg≠3):C_e 65 #[pa_ q,.int .i64 alg,.slice ao n cap] w (.tuple #[.nilIface,.int .i64 8]):=by have aN:(alg==1)=false:=bq;have aN:(alg==2)=false:=bq;have aN:(alg==3)=false:=bq;go_enter func65,ntmps65;exact aiF
def YJ(t:La_)(ao:OA)(cap:Nat):List Str:=[⟨ao,cap,t⟩]
def FI(kp q p:Nat)(k:zx)(ao:OA)(tn tc:Nat)(t:La_)(bo:OA)(n cb:Nat)(m:La_)(w:World)(hk:qu w kp q p k)(ht:t.length=tn)(ht1:tn<=10000)(htc:tn<=tc)(hlt:zr w ao (t.map B))(hn:m.length=n)(h1:1<=n)(h31:n<=20000)(hcb:n<=cb)(hl:zr w bo (m.map B)):Ca_ 271 #[.agg #[pa_ kp],.slice ao tn tc,.slice bo n cb] w λe w'=>∃v,e=.returned (.tuple #[v,.int .i64 0])/\w'.ownsRow w.heap.size 5 1 v n ((ze6 k [t] m false).map B)/\Below w.heap.size w w':=by
 have MM:=zc hk;refine aiT ?_;intro A3 Pk Nl A0;clear hk ht hlt hn hl;go_enter func271,ntmps271;go_wp2_with (refine aqK ?_);refine anx ?_;intro A4 aF sy a1A uX;go_wp2_with (refine a1A.zdS rfl rfl rfl kH rfl ?_);go_wp2_with fail;have a0f:=ha_ (yI (A4.alloc (.cells #[.slice ao tn tc] 23)) (some ⟨A4.heap.size,0,none⟩) (YJ t ao tc)) (by
  refine⟨?_,?_⟩
  ·exact arO
  ·intro ej eg;simp[YJ] at eg;subst eg;exact⟨by rw[A3.o];exact htc,(Pk.below uX).below (zu _ _)⟩)
 have uX:=zc (uX.trans ((zu A4 (.cells #[.slice ao tn tc] 23)).mono uX.size));generalize A4.alloc (.cells #[.slice ao tn tc] 23)=Ev at*;refine(bT kp q p k (some ⟨A4.heap.size,0,none⟩) 1 1 (YJ t ao tc) bo n cb m false _ (MM.later uX) rfl ae a0f pe Nl h1 h31 hcb (A0.below uX)).mono ?_;exact anc
def FJ(kp q p:Nat)(k:zx)(ao:OA)(tn tc:Nat)(t:La_)(bo:OA)(n cb:Nat)(m:La_)(w:World)(hk:qu w kp q p k)(ht:t.length=tn)(ht1:tn<=10000)(htc:tn<=tc)(hlt:zr w ao (t.map B))(hn:m.length=n)(h1:1<=n)(h31:n<=20000)(hcb:n<=cb)(hl:zr w bo (m.map B)):Ca_ 270 #[.agg #[pa_ kp],.slice ao tn tc,.slice bo n cb] w λe w'=>∃v,e=.returned (.tuple #[v,.int .i64 0])/\w'.ownsRow w.heap.size 5 1 v n ((ze6 k [t] m true).map B)/\Below w.heap.size w w':=by
 have MM:=zc hk;refine aiT ?_;intro A3 Pk Nl A0;clear hk ht hlt hn hl;go_enter func270,ntmps270;go_wp2_with (refine aqK ?_);refine anx ?_;intro A4 aF sy a1A uX;go_wp2_with (refine a1A.zdS rfl rfl rfl kH rfl ?_);go_wp2_with fail;have a0f:=ha_ (yI (A4.alloc (.cells #[.slice ao tn tc] 23)) (some ⟨A4.heap.size,0,none⟩) (YJ t ao tc)) (by
  refine⟨?_,?_⟩
  ·exact arO
  ·intro ej eg;simp[YJ] at eg;subst eg;exact⟨by rw[A3.o];exact htc,(Pk.below uX).below (zu _ _)⟩)
 have uX:=zc (uX.trans ((zu A4 (.cells #[.slice ao tn tc] 23)).mono uX.size));generalize A4.alloc (.cells #[.slice ao tn tc] 23)=Ev at*;refine(bT kp q p k (some ⟨A4.heap.size,0,none⟩) 1 1 (YJ t ao tc) bo n cb m true _ (MM.later uX) rfl ae a0f pe Nl h1 h31 hcb (A0.below uX)).mono ?_;exact anc
def Zt(start:La_)(p:La_):Nat->La_
 | 0=>start
 | k+1=>(Zt start p k).set k (yj (at8 (Zt start p k) k) (at8 p k))
def QM(s p:La_):∀k,(Zt s p k).length=s.length
 | 0=>rfl
 | k+1=>by rw[Zt,zav,QM s p k]
def rb{s:La_}(h:s.length=16)(i:Nat):Zt s (zw (zae i)) 8=gZ s i:=by
 match s,h with
 | [b0,b1,b2,b3,b4,b5,b6,b7,b8,b9,b10,b11,b12,b13,b14,b15],_=>rfl
def xGo(ks:List (La_))(start:La_)(i:Nat)(b:La_):La_ :=
 if h:b.length=0 then[] else a0u b (wU ks start i)++xGo ks start (i+1) (b.drop 16)
termination_by b.length
decreasing_by simp;omega
def Bh(ks:List (La_))(start:La_)(i:Nat):xGo ks start i []=[]:=by unfold xGo;simp
def rf{ks:List (La_)}{start:La_}{i:Nat}{b:La_}(h:b.length≠0):xGo ks start i b=a0u b (wU ks start i)++xGo ks start (i+1) (b.drop 16):=by
 conv=>lhs;unfold xGo
 rw[dif_neg h]
def CE(b:La_)(k j:Nat):at8 (b.drop k) j=at8 b (k+j):=by unfold at8;rw[zcG,zcG,List.getElem?_drop]
def Bi(ks:List (La_))(start:La_):∀(n i:Nat)(b:La_),b.length<=n->xGo ks start i b=(List.range b.length).map λj=>yj (at8 b j) (at8 (wU ks start (i+j/16)) (j%16))
 | n,i,b,h=>by
  by_cases h0:b.length=0
  ·rw[zaI h0,Bh];rfl
  ·rw[rf h0]
   match n,h with
   | 0,h=>omega
   | n+1,h =>
    rw[Bi ks start n (i+1) (b.drop 16) dj];apply List.ext_getElem?;intro j;have hxl:(a0u b (wU ks start i)).length=min b.length 16:=by rw[a00,Yw]
    by_cases aA:j<min b.length 16
    ·rw[List.getElem?_append_left (by rw[hxl];exact aA)];rw[zay,zbj ae];have ai:j/16=0:=ae;have aj:j%16=j:=ae;simp only[zbM,ai,aj,Nat.add_zero];unfold a0u;rw[zay,zbj (by rw[Yw];exact aA)];rfl
    ·rw[List.getElem?_append_right (by rw[hxl];omega),hxl];by_cases aR:j<b.length
     ·have eh:min b.length 16=16:=by omega
      rw[eh,zay,zay,zbj dj,zbj aR];simp only[zbM,CE];have ai:16+(j-16)=j:=ae;have aj:i+1+(j-16)/16=i+j/16:=ae;have ak:(j-16)%16=j%16:=ae;rw[ai,aj,ak]
     ·rw[zaf bq,zaf bq]
def CF(ks:List (La_))(start b:La_):xGo ks start 1 b=qG ks start b:=Bi ks start b.length 1 b (zab _)
end
section
attribute [local irreducible] zA zG zH zE xc
def CG(kp q p:Nat)(ks:List (La_))(kb zed n cap:Nat)(s:La_)(i:Nat)(u:UInt64)(w:World)(hk:jk w kp q p ks kb zed n cap)(hs:s.length=16)(hu:u=zae i):C_b 258 #[.pointer (some ⟨kp,0,none⟩),.agg (s.map B).toArray,L u] w (.agg ((wU ks s i).map B).toArray):=by
 have MM:=zc hk;have EZ:=t_ hs;obtain⟨a8a,Ic⟩:=n_ (zw u);have PH:=ha_ (zw u=a8a/\a8a.length=8) ⟨Ic.symm,by rw[Ic];exact zy u⟩;have Oy:=ha_ (Zt s a8a 8=gZ s i/\True) ⟨by rw[Ic,hu];exact rb hs i,trivial⟩;refine aeC ?_;intro EW;clear hk hs hu Ic;go_enter func258,ntmps258;go_wp2_with (refine zh 144 _ (s.map B) _ rfl rfl rfl rfl ?_);refine am7 ?_;intro A4 aF sy EW aB;go_wp2_with (refine aqB ?_);refine amb ?_;intro Ev aF sy EW aB;generalize M1:w.heap.size=MN at*;generalize A4.heap.size=ax at*;refine aoo ?_;intro IZ To;clear M1;go_wp2_with fail;refine(qj u _).mono ?_;rintro ai A4⟨rfl,sy⟩;rw[PH.1];refine aex ?_;intro EW;go_wp2;go_loopw [11] (λc wr=>∃(j:Nat)(l:La_),j<=8/\c=.int .i64 j/\Hid (l=Zt s a8a j/\True)/\Hid (St w MN wr [(ax,(zg 16).map B,144),(MN,l.map B,144)])) (λc _=>8-(intOf c).toNat);case atStart=>exact⟨0,s,ae,rfl,zc ⟨rfl,trivial⟩,EW⟩
 case round =>
  clear EW;obtain⟨j,l,aA,rfl,EM,EW⟩:=hrel;have I0:=ha_ (l.length=16/\True) ⟨by rw[EM.1,QM];exact EZ.1,trivial⟩;by_cases aB:j<8
  ·have ah:decide ((j:Int)<8)=true:=bq;have Nx:=λw':World=>qn (P:=pgm) w' 161 5 8 (a8a.map B).toArray .i64 j (B (at8 a8a j)) underlying161 e0 zm (by rw[List.getElem?_toArray];exact zX (a01 (by rw[PH.2];exact aB))) aB;have az:=EW.g1.cell j _ (zX (a01 (b:=l) (i:=j) (by rw[I0.1];omega)));have Nl:=ha_ (l.set j (yj (at8 l j) (at8 a8a j))=Zt s a8a (j+1)/\True) ⟨by rw[Zt,<-EM.1],trivial⟩;go_wp2_with (refine EW.g1.zeJ (i:=j) (v:=B (yj (at8 l j) (at8 a8a j))) rfl rfl rfl rfl zm rfl rfl (by rw[zaa,I0.1];omega) ?_);intro A4 aF oE;rw[yD] at aF;have EW:=zc (EW.change 1 aF oE ae bq);clear az Nx;go_wp2;go_roundw;case rel=>exact⟨j+1,_,ae,hM,Nl,EW⟩
   case measure=>simp[intOf];omega
  ·obtain rfl:j=8:=ae;have EM:=ha_ (l=gZ s i/\True) ⟨by rw[EM.1,Oy.1],trivial⟩;have RD:=l_ l 16 I0.1;go_wp2_with (refine EW.g1.zdS rfl rfl rfl zd RD ?_);refine(u5 kp q p ks kb zed n cap l _ (MM.later (To _ _ EW)) I0.1).mono ?_;rintro ai A4⟨rfl,sy⟩;refine aex ?_;intro EW;obtain⟨v,aL⟩:=n_ (enc ks l);have OS:=ha_ (wU ks s i=v/\v.length=16) ⟨by rw[aL,EM.1];rfl,by rw[aL];exact qw _ _⟩;have a1w:=l_ v 16 OS.2;rw[<-aL];clear aL;go_wp2_with (refine EW.g0.zdP rfl rfl rfl (cs:=v.map B) rfl zd ev a1w (zj _) ?_);intro A4 aF oE;go_wp2;refine aF.result rfl rfl rfl zd a1w ⟨by rw[OS.1],?_⟩;exact aij
abbrev Bj(kp bs:Nat)(sl v:Value)(u:UInt64)(us:Nat->Value):Act:={ tmps:=#[.pointer (some ⟨kp,0,none⟩),us 1,sl,us 3,.pointer (some ⟨bs,0,none⟩),us 5,us 6,us 7,v,L u,us 10,us 11,us 12,us 13,us 14,us 15,us 16,us 17,us 18,us 19,us 20,us 21,us 22,us 23,us 24,us 25,us 26,us 27,us 28,us 29,us 30,us 31,us 32,us 33,us 34,us 35,us 36],defers:=[] }
def zje(kp bs:Nat)(ks:List (La_))(s b:La_)(w:World)(x:Act)(wr:World):Prop :=
 ∃(bz:Nat)(us:Nat->Value)(ao:OA)(n c:Nat)(rest:La_)(v:Value)(k:Nat)(outs:La_)(many:Nat)(u:UInt64),x=Bj kp bs (.slice ao n c) v u us/\bs<bz/\n<=c/\k+n=b.length/\Hid (rest.length=n)/\Hid (zr w ao (rest.map B))/\Hid (u=zae many/\True) /\
  Hid (outs.length=k/\outs++xGo ks s many rest=qG ks s b)/\Hid (wr.ownsRow bz 5 1 v k (outs.map B)) /\
  Hid (St w bs wr [(bs,s.map B,144)])/\bz<=wr.heap.size
def zje.intro{kp bs:Nat}{ks:List (La_)}{s b:La_}{w:World}{x:Act}{wr:World}(bz:Nat)(ao:OA)(n c:Nat)(rest:La_)(v:Value)(k:Nat)(outs:La_)(many:Nat)(u:UInt64)(hx:x=Bj kp bs (.slice ao n c) v u (λi=>x.tmps.getD i undef))(g1:bs<bz)(h1:n<=c)(h2:k+n=b.length)(h3:rest.length=n)(h4:zr w ao (rest.map B))(h5:u=zae many)(h7:outs.length=k/\outs++xGo ks s many rest=qG ks s b)(h8:wr.ownsRow bz 5 1 v k (outs.map B))(h9:St w bs wr [(bs,s.map B,144)])(h10:bz<=wr.heap.size):zje kp bs ks s b w x wr :=
 ⟨bz,_,ao,n,c,rest,v,k,outs,many,u,hx,g1,h1,h2,h3,h4,⟨h5,trivial⟩,h7,h8,h9,h10⟩
def CH(kp q p:Nat)(ks:List (La_))(kb zed kn zeG:Nat)(s:La_)(ao:OA)(n cap:Nat)(b:La_)(w:World)(hk:jk w kp q p ks kb zed kn zeG)(hs:s.length=16)(hb:b.length=n)(hc:n<=cap)(hn:n<=1000000)(hl:zr w ao (b.map B)):Ca_ 255 #[pa_ kp,.agg (s.map B).toArray,.slice ao n cap] w λe w'=>∃v,e=.returned (.tuple #[v,.int .i64 0])/\w'.ownsRow w.heap.size 5 1 v n ((qG ks s b).map B)/\Below w.heap.size w w':=by
 obtain⟨aS,aO,aT,aU,aV⟩:=info_parts z5;refine aeW ?_;intro NK;have MM:=zc hk;have EZ:=t_ hs;have a8b:=l_ s 16 hs;have uX:=zc hb;have A0:=zc hl;refine aeC ?_;intro EW;clear hk hs hb hl aO aT aU aV;go_enter func255,ntmps255;go_wp2_with (refine zh 144 _ (s.map B) _ rfl rfl rfl rfl ?_);refine amf ?_;intro A4 hb sy EW aB;generalize M1:w.heap.size=MN at*;refine aoo ?_;intro IZ To;clear M1;go_wp2_with fail;refine zN 0 (zje kp MN ks s b w) (λx _=>X3 (x.tmps.getD 2 undef)) rfl ?_ ?_
 ·simp only[qb];go_wp2_with (at_make;refine wpList_make_own _ rfl _ _ 23 rfl A4.heap.size 5 aS (.int .u8 0) 1 underlying23 NK.1 NK.2.1 NK.2.2.1 _ _ _ n rfl rfl ?m1 ?m2 ?m3 (zab _) ?_);case m1=>simp
  case m2=>rw[NK.2.2.2];omega
  case m3=>unfold maxLen;omega
  intro Ev I4 NN;have NO:=zc I4;have MV:Below A4.heap.size A4 Ev:=(Below.refl A4.heap.size A4).grown NN (zab _) (λk h=>by cases h);have EW:=zc (EW.later MV);have aT:=MV.size;clear NN MV;go_wp2;exact zje.intro A4.heap.size ao n cap b _ 0 [] 1 _ rfl aB hc (by simp;exact uX.symm) uX A0 rfl ⟨rfl,by rw[zaB];exact CF _ _ _⟩ NO EW aT
 ·rintro x oU⟨a4A,NU,ao,n',iy,oJ,v,k,a6y,a6A,au,rfl,ie,ND,a6B,Nv,Mt,Pu,a6q,I9,EW,a6D⟩;by_cases ag:n'=0
  ·subst ag;have EM:=ha_ (a6y=qG ks s b/\k=n) ⟨by have aM:=a6q.2;rw[zaI Nv.o,Bh,za5] at aM;exact aM,by rw[<-uX.o];omega⟩;rw[EM.1,EM.2] at I9;go_wp2;go_ret2;refine⟨_,rfl,yt I9 o2,?_⟩;rw[IZ.o];exact EW.bel
  ·have aN:((n':Int)==0)=false:=by simp;omega
   obtain⟨An,eI⟩:=n_ (min n' 16);have eA:1<=An:=ae;have PU:An<=n':=ae;have eA:An<=16:=ae;have IP:=t_ eI;have Nr:k+n'<=1000000:=by have:=uX.o;omega
   have a6E:=t_ a6B;clear eI a6B;go_wp2_with (refine EW.g0.zdS rfl rfl rfl zd a8b ?_);refine(CG kp q p ks kb zed kn zeG s a6A au _ (MM.later (To _ _ EW)) EZ.1 Pu.1).mono ?_;rintro e A4⟨rfl,sy⟩;refine aiM ?_;intro I9 EW;have aU:=sy.size;obtain⟨a6L,a6M⟩:=n_ (wU ks s a6A);have a1A:=ha_ (wU ks s a6A=a6L/\a6L.length=16) ⟨a6M.symm,by rw[a6M];exact Yw _ _ _⟩;have a5B:=l_ a6L 16 a1A.2;rw[<-a6M];clear a6M;have ib:MN<A4.heap.size:=EW.ne _ (zad (i:=0) rfl);go_wp2_with (refine aqB ?_);intro IX hb sy;have I9:=zc (zo I9 sy);have EW:=zc (EW.push hb sy);have a0k:=hb.lt;generalize aF:A4.heap.size=ax at*;clear aF;go_wp2_with (refine EW.g0.zdP rfl rfl rfl (cs:=a6L.map B) rfl zd r0 a5B (zj _) ?_);intro A4 hb oE;have I9:=zc (zD I9 EW.g0 bd oE);have EW:=zc (EW.change 0 hb oE ae bq);have aU:A4.heap.size=IX.heap.size:=oE.size;go_wp2_with fail;refine(YB ao (some ⟨ax,0,none⟩) n' 16 iy 16 oJ a6L _ Nv a1A.2 ae ae (Mt.below (To _ _ EW)) EW.g0.lies).mono ?_;rintro e Ev⟨aK,rfl,I4,sy⟩;obtain⟨eT,A5,rfl,_,_,hl⟩:=zz I4;refine aiM ?_;intro I9 EW;have A0:=zc hl;have aT:=sy.size;clear hl;simp only[id];rw[<-IP.1];have Nw:=ha_ ((a0u oJ a6L).length=An) (by rw[a00,Nv.o,a1A.2];exact IP.1.symm);go_wp2_with (at_builtin;refine z8 rfl (.tmp 28) (.tmp 29) 23 rfl a4A 5 aS (.int .u8 0) 1 underlying23 NK.1 NK.2.1 NK.2.2.1 NK.2.2.2 rfl v k (a6y.map B) rfl I9 eT An A5 ((a0u oJ a6L).map B) rfl hR A0 (wG _) ew ae ae ?_);intro aK A4 I4 oG;have Eu:Below a4A Ev A4:=zU (Below.refl a4A Ev) I9 oG (zab _) ae;have EW:=ha_ (St w MN A4 [(MN,s.map B,144)]) ((EW.sub (L':=[(MN,s.map B,144)]) s4).low Eu ae mb);have I9:=ha_ (A4.ownsRow a4A 5 1 aK (k+An) ((a6y++a0u oJ a6L).map B)) (by rw[zaD];exact I4);have aT:=Eu.size;clear oG Eu;have N0:=λ(w':World)=>yF (P:=pgm) w' 23 5 1 underlying23 zm ao n' iy An An rfl PU;have a6N:=ha_ (oJ.drop 16=oJ.drop An/\True) ⟨by
    by_cases h:n'<=16
    ·rw[zak (by rw[Nv.o];omega),zak (by rw[Nv.o];have:=IP.1;omega)]
    ·have:=IP.1;rw[show An=16 by omega],trivial⟩
   have a4E:=ha_ ((a6y++a0u oJ a6L).length=k+An/\(a6y++a0u oJ a6L)++xGo ks s (a6A+1) (oJ.drop An)=qG ks s b) ⟨by rw[zac,a6q.1,Nw.o],by
    rw[<-a6q.2,rf (b:=oJ) (by rw[Nv.o];exact ag),a1A.1,a6N.1,List.append_assoc]⟩
   go_wp2;refine wp_goto ⟨rfl,zje.intro a4A (yz ao iy An) (n'-An) (iy-An) (oJ.drop An) aK (k+An) (a6y++a0u oJ a6L) (a6A+1) _ rfl ie ae (by have:=a6E.1;omega) (by rw[zan,Nv.o]) (zr.ze0 Mt (by rw[Nv.o];exact ND) An) ?_ a4E I9 EW ae,?_⟩
   ·rw[Pu.1];exact(UInt64.ofNat_add a6A 1).symm
   ·simp[X3];omega
end
section
attribute [local irreducible] zA zG zH zE zR
def VK(ao:OA)(n cap:Nat)(ks:List (La_))(w:World)(hn:ks.length=n)(hnb:n<=1099511627776)(hk:y7 16 w ao ks):C_b 253 #[.slice ao n cap] w (.agg ((plusB ks).map B).toArray):=by
 have Nl:=zc hn;have MM:=zc hk;refine aeC ?_;intro EW;have Ts:=zc (ze 16);clear hn hk;go_enter func253,ntmps253;go_wp2_with (refine aqB ?_);refine am7 ?_;intro A4 aF sy EW aB;go_wp2_with (refine aqB ?_);refine anw EW ?_;intro Ev aF sy EW II;generalize M1:w.heap.size=MN at*;generalize A4.heap.size=MP at*;have IZ:=zc M1;clear M1;go_wp2;go_loopw [9] (λc wr=>∃(i:Nat)(y:La_),i<=n/\c=.int .i64 i/\Hid (y.length=16)/\Hid ((ks.drop i).foldl both y=plusB ks/\True)/\Hid (St w MN wr [(MP,y.map B,144),(MN,(zg 16).map B,144)])) (λc _=>n-(intOf c).toNat);case atStart=>exact⟨0,zg 16,ae,rfl,Ts,⟨rfl,trivial⟩,EW⟩
 case round =>
  clear EW;obtain⟨i,y,hi,rfl,Pn,EM,EW⟩:=hrel;have Po:=l_ y 16 Pn;by_cases aB:i<n
  ·have Ac:ks[i]? = some (key ks i):=jI hG;obtain⟨Np,Nq,rfl,Nr,eI⟩:=(MM.below hV).range ae Ac;refine asH ?_;intro No OD;have EM:=ha_ ((ks.drop (i+1)).foldl both (both y (key ks i))=plusB ks/\True) ⟨by
    rw[<-EM.1,List.drop_eq_getElem_cons (l:=ks) (i:=i) hG,List.foldl_cons];congr 2;have:=List.getElem?_eq_getElem (l:=ks) (i:=i) hG;rw[Ac] at this;exact zaW this,trivial⟩
   exact asw
  ·exact asB
end
variable{kp cp:Nat}{h l u:La_}{w w':World}
section
attribute [local irreducible] zA zG zH zE xc
def hcV(kp:Nat)(h l:La_):Lb_:=.pointer (some ⟨kp,0,none⟩)::(h.map B++l.map B)
def Je(hh:h.length=16)(hl:l.length=16):(hcV kp h l).length=33:=by simp[hcV,hh,hl]
def zjf(hh:h.length=16):((hcV kp h l).drop 1).take 16=h.map B:=by show(h.map B++l.map B).take 16=_;rw[zaL sv,zai sv]
def zlp(hh:h.length=16)(hl:l.length=16):((hcV kp h l).drop 17).take 16=l.map B:=by show((h.map B++l.map B).drop 16).take 16=_;rw[zbn,zak sv,zaB,zaa,hh,zbH,zai (by rw[zaa,hl];omega)]
def Gd(hh:h.length=16)(hu:u.length=16):(hcV kp h l).take 1++u.map B++(hcV kp h l).drop (1+(u.map B).length)=hcV kp u l:=by rw[zaa,hu];unfold hcV;rw[show(1+16)=16+1 by rfl,List.drop_succ_cons,zbn,zak sv,zaB,zaa,hh,zbH];simp
def Ge(hh:h.length=16)(hl:l.length=16)(hu:u.length=16):(hcV kp h l).take 17++u.map B++(hcV kp h l).drop (17+(u.map B).length)=hcV kp h u:=by rw[zaa,hu,zak (by rw[Je hh hl];omega),za5];unfold hcV;rw[show 17=16+1 by rfl,List.take_succ_cons,zaL sv,zai sv];rfl
def LO(kp:Nat):pgm.built 184 [(0,.pointer (some ⟨kp,0,none⟩))]=some (hcV kp (zg 16) (zg 16)).toArray:=e0
def CI:pgm.built 144 []=some ((zg 16).map B).toArray:=e0
def CJ:pgm.built 144 [(0,.int .u8 1)]=some ((1::zg 15).map B).toArray:=e0
structure HCx(w:World)(cp kp q p kb zed n zeG:Nat)(k:jr):Prop where
 blk:Blk w cp (hcV kp k.h k.l) 184
 key:jk w kp q p k.ks kb zed n zeG
def HCx.later{q p kb zed n zeG:Nat}{k:jr}(h:HCx w cp kp q p kb zed n zeG k)(hl:Below w.heap.size w w'):HCx w' cp kp q p kb zed n zeG k:=⟨h.blk.below hl h.blk.lt,h.key.later hl⟩
structure X0(w:World)(cp:Nat)(k:jr):Prop where
 h16:k.h.length=16
 l16:k.l.length=16
 ex:∃kp q p kb zed n zeG,HCx w cp kp q p kb zed n zeG k
def X0.later{k:jr}(h:X0 w cp k)(hl:Below w.heap.size w w'):X0 w' cp k:=by obtain⟨a8c,ey,ox,Np,Nq,Ep,a8d,aH⟩:=h.ex;exact⟨h.h16,h.l16,a8c,ey,ox,Np,Nq,Ep,a8d,aH.later hl⟩
def Gg(xb cp kp q p kb zed n zeG:Nat)(k:jr)(b:La_)(w:World)(hx:w.cell? ⟨xb,0,none⟩=some (pa_ cp))(hk:HCx w cp kp q p kb zed n zeG k)(hb:b.length=16):C_b 252 #[.agg (b.map B).toArray,pa_ xb] w (.agg ((enc k.ks b).map B).toArray):=by refine aoH ?_;intro MM EZ uX a5B;obtain⟨aK,aL⟩:=n_ (enc k.ks b);have OS:=ha_ (enc k.ks b=aK/\aK.length=16) ⟨aL.symm,by rw[aL];exact qw _ _⟩;have a1w:=l_ aK 16 OS.2;rw[<-aL];refine aeC ?_;intro EW;clear hx hk hb aL;go_enter func252,ntmps252;go_wp2_with (refine aqD ?_);refine amf ?_;intro A4 hb sy EW aB;go_wp2_with (refine aqB ?_);refine anw EW ?_;intro w2 hb sy EW aB;generalize M1:w.heap.size=MN at*;generalize A4.heap.size=ax at*;refine aoo ?_;intro IZ To;clear M1;refine ahh ?_;intro az AV;go_wp2_with fail;refine zp [0,1,2,3,4,5,6] e0 e0 ?_;rintro A4 rfl;refine ak5 EW ?_;intro EW;clear az AV;refine zB EW.g1.range EW.g1.lt zd a5B rfl rfl rfl rfl (λK hK=>?_);refine ali ?_;clear hK K;refine Pm ?_;intro K hK;refine(u5 kp q p k.ks kb zed n zeG b _ (MM.later (To _ _ EW)).key uX.1).mono ?_;exact an4
def Gh(xb cp kp q p kb zed n zeG:Nat)(k:jr)(b:La_)(w:World)(hx:w.cell? ⟨xb,0,none⟩=some (pa_ cp))(hk:HCx w cp kp q p kb zed n zeG k)(hb:b.length=16):C_b 251 #[.agg (b.map B).toArray,pa_ xb] w (.agg ((dec k.ks b).map B).toArray):=by refine aoH ?_;intro MM EZ uX a5B;obtain⟨aK,aL⟩:=n_ (dec k.ks b);have OS:=ha_ (dec k.ks b=aK/\aK.length=16) ⟨aL.symm,by rw[aL];exact jN _ _⟩;have a1w:=l_ aK 16 OS.2;rw[<-aL];refine aeC ?_;intro EW;clear hx hk hb aL;go_enter func251,ntmps251;go_wp2_with (refine aqD ?_);refine amf ?_;intro A4 hb sy EW aB;go_wp2_with (refine aqB ?_);refine anw EW ?_;intro w2 hb sy EW aB;generalize M1:w.heap.size=MN at*;generalize A4.heap.size=ax at*;refine aoo ?_;intro IZ To;clear M1;refine ahh ?_;intro az AV;go_wp2_with fail;refine zp [0,1,2,3,4,5,6] e0 e0 ?_;rintro A4 rfl;refine ak5 EW ?_;intro EW;clear az AV;refine zB EW.g1.range EW.g1.lt zd a5B rfl rfl rfl rfl (λK hK=>?_);refine ali ?_;clear hK K;refine Pm ?_;intro K hK;refine(Fv kp q p k.ks kb zed n zeG b _ (MM.later (To _ _ EW)).key uX.1).mono ?_;exact an4
end
variable{n base q vp sp np b g:Nat}{w w':World}{own xp load:Value}{k:yo}{F F':List Nat}{X:World->Prop}{ty:TypeId}{v:Vol}{xs:Lb_}{S:Nat->Prop}{s:Str}
section
attribute [local irreducible] zA zG zH zE zR
def VL(q p:Nat)(ao:OA)(len cap:Nat)(key:La_)(n:Nat)(long:Bool)(w:World)(hexp:Ca_ 104 #[pa_ q,.slice ao len cap] w λe w'=>∃kp kb zed zeG,e=.returned (.tuple #[pa_ kp,.int .i64 0])/\jk w' kp q p (expand n long key) kb zed (n+7) zeG/\(w.heap.size<=kp/\w.heap.size<=kb)/\Below w.heap.size w w'):Ca_ 85 #[pa_ q,.slice ao len cap] w λe w'=>∃cp,e=.returned (.tuple #[pa_ cp,.int .i64 0])/\Std w.heap.size [q,p] w' (λw''=>X0 w'' cp (uL n long key))/\Below w.heap.size w w':=by
 have OV:=zc hexp;obtain⟨a8P,TK⟩:=n_ (expand n long key);obtain⟨ep,aT⟩:=n_ (zg 16);obtain⟨a8Q,aU⟩:∃x,x=1::zg 15:=⟨_,rfl⟩
 have Ts:=ha_ (ep.length=16/\True) ⟨by rw[aT];rfl,trivial⟩;have a8R:=ha_ (a8Q.length=16/\True) ⟨by rw[aU];rfl,trivial⟩;obtain⟨h,oI⟩:=n_ (enc a8P ep);obtain⟨Mv,aR⟩:=n_ (enc a8P a8Q);have a8S:=ha_ (uL n long key=⟨a8P,h,Mv⟩/\expand n long key=a8P) ⟨by rw[oI,aR,TK,aT,aU];rfl,TK.symm⟩;have a8T:=ha_ (enc a8P ep=h/\h.length=16) ⟨oI.symm,by rw[oI];exact qw _ _⟩;have M3:=ha_ (enc a8P a8Q=Mv/\Mv.length=16) ⟨aR.symm,by rw[aR];exact qw _ _⟩;have aF:pgm.built 144 []=some (ep.map B).toArray:=by rw[aT];exact CI
 have Ew:pgm.built 144 [(0,.int .u8 1)]=some (a8Q.map B).toArray:=by rw[aU];exact CJ
 have a8U:∀kp,pgm.built 184 [(0,.pointer (some ⟨kp,0,none⟩))]=some (hcV kp ep ep).toArray:=by rw[aT];exact LO
 refine ajJ aF Ew a8U ?_;intro uX EB a8V;rw[a8S.1];refine aeC ?_;intro EW;clear hexp TK aT aU oI aR aF Ew a8U;go_enter func85,ntmps85;generalize M1:w.heap.size=MN at*;have IZ:=zc M1;clear M1;go_wp2_with fail;refine OV.mono ?_;rintro e A4⟨kp,kb,zed,zeG,rfl,a8I,Tw,sy⟩;rw[a8S.2] at a8I;have MM:=zc a8I;have OT:=zc Tw;have NC:kp<A4.heap.size/\q<A4.heap.size/\p<A4.heap.size/\kb<A4.heap.size:=⟨a8I.blk.lt,a8I.tab.tab.lt,a8I.tab.boxes.lt,(a8I.range 0 (by have:=a8I.two;omega)).2⟩
 have EW:=zc (EW.later (by rw[IZ.o];exact sy));have aU:=EW.size;clear a8I Tw;have a8U:=a8V.o kp;go_wp2_with (first|(refine qQ 184 _ _ _ rfl rfl rfl a8U ?_)|refine zh 184 _ (hcV kp ep ep) _ rfl rfl rfl rfl ?_);intro Ev hb sy;have MM:=zc (MM.later sy);have EW:=zc (EW.push hb sy);clear a8U;generalize A4.heap.size=cp at*;have az:=λ(x:zO (λu v=>Below u.heap.size u v) Ev.drew)=>((EW.drew.later x.2).get 0 rfl).cell 0 _ rfl;go_wp2_with fail;refine j3 (λu v=>Below u.heap.size u v) [16,19] [(0,2),(1,2),(2,2),(3,2),(4,2),(5,1),(6,2),(8,2),(9,2),(10,2),(11,1),(12,2),(7,0),(13,0),(14,2),(15,2),(16,0),(17,2),(18,2),(19,0)] (λa=>Below.refl _ a) (λ_ _ _ h1 h2=>h1.trans (h2.mono h1.size)) e0 e0 ?_;rintro A4 rfl;refine mqN ?_;clear az;rw[show(#[Value.int IntKind.u8 0,Value.int IntKind.u8 0,Value.int IntKind.u8 0,Value.int IntKind.u8 0,Value.int IntKind.u8 0,Value.int IntKind.u8 0,Value.int IntKind.u8 0,Value.int IntKind.u8 0,Value.int IntKind.u8 0,Value.int IntKind.u8 0,Value.int IntKind.u8 0,Value.int IntKind.u8 0,Value.int IntKind.u8 0,Value.int IntKind.u8 0,Value.int IntKind.u8 0,Value.int IntKind.u8 0]:Array Value)=(ep.map B).toArray from zaW uX.o,show(#[Value.int IntKind.u8 1,Value.int IntKind.u8 0,Value.int IntKind.u8 0,Value.int IntKind.u8 0,Value.int IntKind.u8 0,Value.int IntKind.u8 0,Value.int IntKind.u8 0,Value.int IntKind.u8 0,Value.int IntKind.u8 0,Value.int IntKind.u8 0,Value.int IntKind.u8 0,Value.int IntKind.u8 0,Value.int IntKind.u8 0,Value.int IntKind.u8 0,Value.int IntKind.u8 0,Value.int IntKind.u8 0]:Array Value)=(a8Q.map B).toArray from zaW EB.o];have MM:=zc MM.drew;have EW:=zc EW.drew;refine xo rfl aa (λK hK=>?_);go_simp;refine(u5 kp q p a8P kb zed (n+7) zeG ep _ MM Ts.1).mono ?_;refine ajX a8T ?_;intro A4 sy;have MM:=zc (MM.later sy);refine aex ?_;intro EW;go_simp;refine hK _ _ (λ_=>sy) ?_;clear hK K;refine xo rfl aa (λK hK=>?_);go_simp;refine(u5 kp q p a8P kb zed (n+7) zeG a8Q _ MM a8R.1).mono ?_;refine ajX M3 ?_;intro A4 sy;have MM:=zc (MM.later sy);refine aex ?_;intro EW;go_simp;refine hK _ _ (λ_=>sy) ?_;clear hK K;refine agq ?_;intro K hK;refine EW.g0.zeC (o:=1) (cs:=h.map B) rfl rfl rfl zd (by rw[zaa];exact a8T.2) (by rw[Je Ts.1 Ts.1];omega) (zj _) (λw6 hb ho=>hK _ _ (λh=>by cases h) ?_);clear hK K;rw[Gd Ts.1 a8T.2] at hb;have MM:=zc (MM.only ho ae ae ae ae);have EW:=zc (EW.change 0 hb ho ae ab);clear hb ho;go_simp;refine agq ?_;intro K hK;refine EW.g0.zeC (o:=17) (cs:=Mv.map B) rfl rfl rfl zd (by rw[zaa];exact M3.2) (by rw[Je a8T.2 Ts.1];omega) (zj _) (λw7 hb ho=>hK _ _ (λh=>by cases h) ?_);clear hK K;rw[Ge a8T.2 Ts.1 M3.2] at hb;have MM:=zc (MM.only ho ae ae ae ae);have EW:=zc (EW.change 0 hb ho ae ab);clear hb ho;go_simp;refine vW ?_;go_wp2;go_ret2;exact⟨_,rfl,λS w'' hS hu=>⟨a8T.2,M3.2,kp,q,p,kb,zed,n+7,zeG,EW.g0.up hu (hS _ (.inl ae)),MM.up hu (hS _ (.inl (by have:=OT.o;omega))) (hS _ (.inr ab)) (hS _ (.inr ab)) (hS _ (.inl (by have:=OT.o;omega)))⟩,EW.bel⟩
def Gm(q p:Nat)(ao:OA)(cap:Nat)(key:La_)(w:World)(ht:Tab w q p)(hlen:key.length=32)(hl:zr w ao (key.map B)):Ca_ 85 #[pa_ q,.slice ao 32 cap] w λe w'=>∃cp,e=.returned (.tuple #[pa_ cp,.int .i64 0])/\Std w.heap.size [q,p] w' (λw''=>X0 w'' cp (uL 8 true key))/\Below w.heap.size w w' :=
 VL q p ao 32 cap key 8 true w (Wb q p ao cap key w ht hlen hl)
def Gn(q p:Nat)(ao:OA)(cap:Nat)(key:La_)(w:World)(ht:Tab w q p)(hlen:key.length=24)(hl:zr w ao (key.map B)):Ca_ 85 #[pa_ q,.slice ao 24 cap] w λe w'=>∃cp,e=.returned (.tuple #[pa_ cp,.int .i64 0])/\Std w.heap.size [q,p] w' (λw''=>X0 w'' cp (uL 6 false key))/\Below w.heap.size w w' :=
 VL q p ao 24 cap key 6 false w (nX q p ao cap key w ht hlen hl)
def Gp(q p:Nat)(ao:OA)(cap:Nat)(key:La_)(w:World)(ht:Tab w q p)(hlen:key.length=16)(hl:zr w ao (key.map B)):Ca_ 85 #[pa_ q,.slice ao 16 cap] w λe w'=>∃cp,e=.returned (.tuple #[pa_ cp,.int .i64 0])/\Std w.heap.size [q,p] w' (λw''=>X0 w'' cp (uL 4 false key))/\Below w.heap.size w w' :=
 VL q p ao 16 cap key 4 false w (nW q p ao cap key w ht hlen hl)
def CM(q:Nat)(ao:OA)(len cap:Nat)(w:World)(h:len≠32/\len≠16/\len≠24):C_e 85 #[pa_ q,.slice ao len cap] w (.tuple #[.pointer none,.int .i64 2]):=by refine aeC ?_;intro EW;have PW:=zc h;clear h;go_enter func85,ntmps85;go_wp2_with fail;refine(tz q ao len cap _ PW).mono ?_;exact an3
def Bk(F xb cp:Nat)(k:jr)(f:La_->La_)(ao:OA)(tn tc:Nat)(t:La_)(bo:OA)(n cb:Nat)(m:La_)(w:World)(hk:X0 w cp k)(hcf:∀args w,(callFunc F args).run pgm w=.ok (.enter F args) w)(hf:∀w' b,Below w.heap.size w w'->b.length=16->Ca_ F #[.agg (b.map B).toArray,.pointer (some ⟨xb,0,none⟩)] w' λe w''=>e=.returned (.agg ((f b).map B).toArray)/\Below w'.heap.size w' w'')(hfl:∀b,(f b).length=16)(ht:t.length=tn)(ht1:tn<=10000)(htc:tn<=tc)(hlt:zr w ao (t.map B))(hn:m.length=n)(h1:16<=n)(h31:n<=20000)(hcb:n<=cb)(hl:zr w bo (m.map B)):Ca_ 250 #[.pointer (some ⟨cp,0,none⟩),.slice ao tn tc,.slice bo n cb,.func (.func F) #[] #[.pointer (some ⟨xb,0,none⟩)]] w λe w'=>∃v,e=.returned (.tuple #[v,.int .i64 0])/\w'.ownsRow w.heap.size 5 1 v n ((zeS k t m (f (Yx k t m))).map B)/\Below w.heap.size w w':=by
 obtain⟨a8c,ey,ox,Np,Nq,a86,a8d,aH⟩:=hk.ex;have EZ:=zc aH;have a9i:=ha_ (k.h.length=16/\k.l.length=16) ⟨hk.h16,hk.l16⟩;have a5S:=l_ k.h 16 hk.h16;have RD:=l_ k.l 16 hk.l16;have I3:=zc hf;have I8:=zc hcf;refine aiT ?_;intro A3 Pk Nl A0;obtain⟨a,Au⟩:=n_ (n-16);have a8g:(n:Int)-16=(a:Int):=ae;have a8i:floatOfInt .f64 (a:Int)=fl a:=rfl;have a7X:decide ((n:Int)<16)=false:=bq;have TD:a<=20000:=ae;have a9j:=ha_ (a+16=n) ae;obtain⟨a9k,a1j⟩:=n_ (m.take 16);obtain⟨MO,a8D⟩:=n_ (m.drop 16);have a9l:=ha_ (a9k.length=16/\True) ⟨by rw[a1j,List.length_take];omega,trivial⟩;have a1A:=ha_ (MO.length=a/\True) ⟨by rw[a8D,zan,hn];omega,trivial⟩;have SW:=ha_ (Yc 0 4625196817309499392 n=some (0,16)) (by have:=wL 0 16 n (by omega) (by omega);rw[Yb,Gi] at this;exact this);have TN:=ha_ (Yc 4625196817309499392 (fl a) n=some (16,a)) (by have:=wL 16 a n (by omega) (by omega);rw[Gi] at this;exact this);have a8h:=ha_ ((m.drop 0).take 16=a9k/\(m.drop 16).take a=MO) ⟨a1j.symm,by rw[a8D,zai (by rw[zan,hn];omega)]⟩;obtain⟨a9m,hlb⟩:=n_ (block a9k);have IU:=ha_ (block a9k=a9m/\a9m.length=16) ⟨hlb.symm,by rw[hlb];exact zI _⟩;obtain⟨aL,a9n⟩:=n_ (zek k.h t MO);have a9o:=ha_ (zek k.h t MO=aL/\aL.length=16) ⟨a9n.symm,by rw[a9n];exact zej _ _ _⟩;obtain⟨a5T,a9p⟩:=n_ (plusB [a9m,aL]);have EH:=ha_ (plusB [a9m,aL]=a5T/\a5T.length=16) ⟨a9p.symm,by rw[a9p];exact a0i _ _⟩;have a9q:=l_ a5T 16 EH.2;obtain⟨a9r,a9s⟩:=n_ (f a5T);have a9t:=ha_ (f a5T=a9r/\a9r.length=16) ⟨a9s.symm,by rw[a9s];exact hfl _⟩;have a9u:=l_ a9r 16 a9t.2;obtain⟨a93,a94⟩:=n_ (plusB [a5T,a9r,k.l]);have a95:=ha_ (plusB [a5T,a9r,k.l]=a93/\a93.length=16) ⟨a94.symm,by rw[a94];exact zK _ _⟩;obtain⟨a9v,a9w⟩:=n_ (qG k.ks a93 MO);have I0:=ha_ (qG k.ks a93 MO=a9v/\a9v.length=a) ⟨a9w.symm,by rw[a9w,wi];exact a1A.1⟩;obtain⟨iA,a9x⟩:=n_ (zek k.h t a9v);have a9y:=ha_ (zek k.h t a9v=iA/\iA.length=16) ⟨a9x.symm,by rw[a9x];exact zej _ _ _⟩;obtain⟨a9z,a9A⟩:=n_ (plusB [a9r,iA]);have a9B:=ha_ (plusB [a9r,iA]=a9z/\a9z.length=16) ⟨a9A.symm,by rw[a9A];exact a0i _ _⟩;have a9C:=l_ a9z 16 a9B.2;have a7c:=ha_ (zeS k t m (f (Yx k t m))=a9z++a9v/\True) ⟨by
  have e:Yx k t m=a5T:=by unfold Yx;rw[<-a1j,<-a8D,<-hlb,<-a9n,<-a9p]
  rw[e,<-a9s];unfold zeS;rw[e,<-a94,<-a8D,<-a9w,<-a9x,<-a9A],trivial⟩
 rw[a7c.1];refine aeC ?_;intro EW;clear hk aH hcf hf ht hlt hn hl Au a1j a8D hlb a9n a9p a9s a94 a9w a9x a9A;go_enter func250,ntmps250;generalize M1:w.heap.size=MN at*;refine aoo ?_;intro IZ To;clear M1;go_wp2_with fail;refine(pq bo n cb m 0 4625196817309499392 0 16 _ Nl hcb ae (A0.below (To _ _ EW)) SW).mono ?_;rintro e A4⟨aK,rfl,I4,sy⟩;rw[a8h.1] at I4;have I9:=zc I4;obtain⟨eT,iy,rfl,az,_,_⟩:=zz I4;refine aiI ?_;intro EW aT;go_wp2_with fail;refine(pq bo n cb m 4625196817309499392 (fl a) 16 a _ Nl hcb ae (A0.below (To _ _ EW)) TN).mono ?_;rintro e A4⟨aK,rfl,I4,sy⟩;rw[a8h.2] at I4;have I9:=zc (zo I9 sy);have TQ:=zc (yt I4 aT);obtain⟨eU,A5,rfl,AV,_,_⟩:=zz I4;refine aex ?_;intro EW;clear a8i a8g;have aT:=EW.size;go_wp2_with fail;refine xq [0,2,3,4,5,6,7] [1,8,9,10] [12] [zT.var 11 14 144 ((zg 16).map B)] e0 e0 ?_;rintro A4 rfl;have EW:=zc EW.drew;have I9:=zc (zo I9 (Below.refl _ _).drew);have TQ:=zc (zo TQ (Below.refl _ _).drew);have I5:=zc (EZ.later (To _ _ EW));refine alX ?_;refine xF ⟨?_,?_,zab _⟩
 ·intro f hf;exact aj7
 refine ak2 ?_;intro uz wa hla K hK;have I9:=zc (zo I9 hla);have TQ:=zc (zo TQ hla);have EW:=zc (EW.later hla);refine(xj eT 16 iy a9k _ a9l.1 (zr.zef I9)).mono ?_;refine ajX IU ?_;intro A4 sy;have TQ:=zc (zo TQ sy);refine amX ?_;intro EW;clear hK K hla;refine ak2 ?_;intro uz wa hla K hK;have TQ:=zc (zo TQ hla);have EW:=zc (EW.later hla);refine(ra k.h ao tn tc t eU a A5 MO _ a9i.1 A3 htc ae (Pk.below (To _ _ EW)) a1A.1 AV ae (zr.zef TQ)).mono ?_;refine ajX a9o ?_;intro A4 sy;have TQ:=zc (zo TQ sy);refine amX ?_;intro EW;clear hK K hla;refine zQ rfl rfl (λuz wa6 hla K hK=>?_);refine qD 209 144 16 2 _ [a9m.map B,aL.map B] rfl rfl underlying209 zV rfl ae rfl ae ae (by simp[IU.2,a9o.2]) ?_;intro A4 hb sy;refine ahc ?_;intro TQ EW;refine hK _ _ sy ?_;have uY:=ha_ (y7 16 A4 (some ⟨wa6.heap.size,0,none⟩) [a9m,aL]) ⟨by simp[IU.2,a9o.2],nx⟩;clear hK K hla;go_simp;refine ak2 ?_;intro uz wa7 hla K hK;refine(VK (some ⟨wa6.heap.size,0,none⟩) 2 2 [a9m,aL] _ rfl ae (uY.below hla)).mono ?_;rintro e A4⟨rfl,sy⟩;refine ahc ?_;intro TQ EW;rw[EH.1];refine aeN ?_;clear hK K hla;refine qA (λb1 wb8 hlb hbx8 hbn=>?_);go_simp;have TQ:=zc (zo TQ hlb);have EW:=zc ((EW.later hlb).add (show Blk wb8 b1 ((zg 16).map B) 144 from hbn));clear hlb hbn;have a9D:MN<=b1:=ae;refine aeA ?_;intro K hK;refine EW.g0.zd4 rfl rfl rfl zd ev a9q (zj _) (λw8 hb ho=>hK _ _ ?_);clear hK K;have TQ:=zc (zD TQ EW.g0 bd ho);have EW:=ha_ (St w MN w8 [(b1,a5T.map B,144)]) (EW.change 0 hb ho a9D ab);clear hb ho;refine aeS ?_;have aF:=EW.ne _ (zad (i:=0) rfl);go_wp2_with (refine EW.g0.zdS rfl rfl rfl zd a9q ?_);rw[I8.o];simp only[Oper.upon_enter];refine(I3 _ a5T EW.bel EH.2).mono ?_;refine ajX a9t ?_;intro A4 sy;have TQ:=zc (zo TQ sy);refine aex ?_;intro EW;have aF:=EW.ne _ (zad (i:=0) rfl);go_wp2_with (refine aqB ?_);intro Ev hb sy;have TQ:=zc (zo TQ sy);have EW:=zc (EW.push hb sy);generalize Ew:A4.heap.size=ax at*;clear Ew;go_wp2_with (refine EW.g0.zdP rfl rfl rfl (cs:=a9r.map B) rfl zd ev a9u (zj _) ?_);intro w11 hb ho;have TQ:=zc (zD TQ EW.g0 bd ho);have EW:=ha_ (St w MN w11 [(ax,a9r.map B,144),(b1,a5T.map B,144)]) (EW.change 0 hb ho ae bq);have I5:=zc (EZ.later (To _ _ EW));have az:=λ(x:zL w11.drew)=>((EZ.later (To _ _ (EW.drew.later x.later))).blk).cell 0 _ rfl;go_wp2_with fail;refine zp [0,1,2,3,4,5,6,7,8,9,12,10,11,13,14,15,16,17] e0 e0 ?_;rintro A4 rfl;refine mqR ?_;clear az;have TQ:=zc (zo TQ (Below.refl _ _).drew);have EW:=zc EW.drew;have I5:=zc (EZ.later (To _ _ EW));refine zB EW.g1.range EW.g1.lt zd a9q rfl rfl rfl rfl (λK hK=>?_);refine ali ?_;clear hK K;refine zB EW.g0.range EW.g0.lt zd a9u rfl rfl rfl rfl (λK hK=>?_);refine ali ?_;clear hK K;refine mqR ?_;refine zB (Blk.zea I5.blk 17 16 _ (zlp a9i.1 a9i.2)) I5.blk.lt zd RD rfl rfl rfl rfl (λK hK=>?_);refine ali ?_;clear hK K;refine mqR ?_;refine Sm ?_;intro K hK;refine qD 209 144 16 3 _ [a5T.map B,a9r.map B,k.l.map B] rfl rfl underlying209 zV rfl ae rfl ae ae (by simp[EH.2,a9t.2,a9i.2]) ?_;intro A4 hb sy;have TQ:=zc (zo TQ sy);refine aex ?_;intro EW;have uY:=ha_ (y7 16 A4 (some ⟨w11.drew.heap.size,0,none⟩) [a5T,a9r,k.l]) ⟨by simp[EH.2,a9t.2,a9i.2],nx⟩;refine hK _ _ sy ?_;clear hK K;go_simp;refine Pm ?_;intro K hK;refine(VK (some ⟨w11.drew.heap.size,0,none⟩) 3 3 [a5T,a9r,k.l] _ rfl ae uY).mono ?_;rintro e A4⟨rfl,sy⟩;have TQ:=zc (zo TQ sy);refine aex ?_;intro EW;rw[a95.1];refine ame ?_;clear hK K;refine Pm ?_;intro K hK;refine(CH a8c ey ox k.ks Np Nq a86 a8d a93 eU a A5 MO _ (EZ.later (To _ _ EW)).key a95.2 a1A.1 AV ae (zr.zef TQ)).mono ?_;rintro e A4⟨aK,rfl,I4,sy⟩;rw[I0.1] at I4;have aT:=EW.size;have TQ:=zc (yt I4 aT);obtain⟨eV,P6,rfl,az,_,_⟩:=zz I4;refine aex ?_;intro EW;refine aeN ?_;clear hK K aT;refine afE ?_;have aT:=EW.size;have a1O:=zc EW.ne;have I5:=zc (EZ.later (To _ _ EW));go_wp2_with fail;refine xq [0,1,2,3,4,5,6] [7,8,9] [11] [zT.var 10 16 144 ((zg 16).map B)] e0 e0 ?_;rintro A4 rfl;have EW:=zc EW.drew;have TQ:=zc (zo TQ (Below.refl _ _).drew);have I5:=zc (EZ.later (To _ _ EW));refine mq0 ?_;refine z7 EW.g0.range EW.g0.lt zd a9u rfl rfl rfl (λK hK=>?_);refine ali ?_;clear hK K;refine alX ?_;refine xF ⟨?_,?_,zab _⟩
 ·intro f hf;exact aj7
 refine ak2 ?_;intro uz wa hla K hK;have TQ:=zc (zo TQ hla);have EW:=zc (EW.later hla);refine(ra k.h ao tn tc t eV a P6 a9v _ a9i.1 A3 htc ae (Pk.below (To _ _ EW)) I0.2 az ae (zr.zef TQ)).mono ?_;refine ajX a9y ?_;intro A4 sy;have TQ:=zc (zo TQ sy);refine amX ?_;intro EW;clear hK K hla;refine zQ rfl rfl (λuz wa6 hla K hK=>?_);refine qD 209 144 16 2 _ [a9r.map B,iA.map B] rfl rfl underlying209 zV rfl ae rfl ae ae (by simp[a9t.2,a9y.2]) ?_;intro A4 hb sy;refine ahc ?_;intro TQ EW;refine hK _ _ sy ?_;have uY:=ha_ (y7 16 A4 (some ⟨wa6.heap.size,0,none⟩) [a9r,iA]) ⟨by simp[a9t.2,a9y.2],nx⟩;clear hK K hla;go_simp;refine ak2 ?_;intro uz wa7 hla K hK;refine(VK (some ⟨wa6.heap.size,0,none⟩) 2 2 [a9r,iA] _ rfl ae (uY.below hla)).mono ?_;rintro e A4⟨rfl,sy⟩;refine ahc ?_;intro TQ EW;rw[a9B.1];refine aeN ?_;clear hK K hla;refine qA (λb3 wb8 hlb hbx9 hbn=>?_);go_simp;have TQ:=zc (zo TQ hlb);have EW:=zc ((EW.later hlb).add (show Blk wb8 b3 ((zg 16).map B) 144 from hbn));clear hlb hbn;refine aeA ?_;intro K hK;refine EW.g0.zd4 rfl rfl rfl zd ev a9C (zj _) (λw20 hb ho=>hK _ _ ?_);clear hK K;have TQ:=zc (zD TQ EW.g0 bd ho);have EW:=ha_ (St w MN w20 [(b3,a9z.map B,144),(ax,a9r.map B,144),(b1,a5T.map B,144)]) (EW.change 0 hb ho ae (λe he=>by have:=a1O.o e he;omega));clear hb ho;refine aeS ?_;have A0:=zc (zr.zef TQ);have a0f:=ha_ (yI (w20.alloc (.cells #[.slice (some ⟨b3,0,none⟩) 16 16,.slice eV a P6] 23)) (some ⟨w20.heap.size,0,none⟩) [⟨some ⟨b3,0,none⟩,16,a9z⟩,⟨eV,P6,a9v⟩]) (by
  refine⟨?_,?_⟩
  ·have:=(Blk.new w20 [.slice (some ⟨b3,0,none⟩) 16 16,.slice eV a P6] 23).lies;simpa[Str.val,a9B.2,I0.2] using this
  ·intro ej eg;simp at eg;rcases eg with rfl|rfl
   ·exact⟨by rw[a9B.2];exact zab _,EW.g0.lies.below (zu _ _)⟩
   ·exact⟨by rw[I0.2];exact az,A0.below (zu _ _)⟩)
 have aT:=EW.size;have EW:=zc (EW.later (zu w20 (.cells #[.slice (some ⟨b3,0,none⟩) 16 16,.slice eV a P6] 23)));have a8f:=ha_ (kx [⟨some ⟨b3,0,none⟩,16,a9z⟩,⟨eV,P6,a9v⟩]=a9z++a9v/\(a9z++a9v).length=n) ⟨anC,by rw[zac,a9B.2,I0.2];have:=a9j.o;omega⟩;go_wp2_with fail;have aU:=EW.size;generalize Am:w20.alloc (.cells #[.slice (some ⟨b3,0,none⟩) 16 16,.slice eV a P6] 23)=A4 at*;clear Am;refine(vV (some ⟨w20.heap.size,0,none⟩) 2 2 [⟨some ⟨b3,0,none⟩,16,a9z⟩,⟨eV,P6,a9v⟩] _ rfl ae a0f (by rw[a8f.1,a8f.2];omega)).mono ?_;rintro e A4⟨aK,rfl,I4,sy⟩;rw[a8f.1,a8f.2] at I4;have NO:=zc (yt I4 aU);refine aex ?_;intro EW;go_wp2;go_ret2;exact⟨_,rfl,NO,EW.bel⟩
def Y9{P:Program}{f:FuncId}{fn:Func}(hf:P.funcs[f]? = some fn)(hname:(fn.name=="runtime.NumGoroutine")=false)(hb:fn.body.isSome=true)(args:Array Value)(w:World):(callFunc f args).run P w=.ok (.enter f args) w:=by
 have ag:¬fn.name="runtime.NumGoroutine":=by simpa using hname
 obtain⟨iy,az⟩:=Option.isSome_iff_exists.1 hb;simp[callFunc,hf,ag,az]
def dM(args:Array Value)(w:World):(callFunc 252 args).run pgm w=.ok (.enter 252 args) w:=Y9 func252 e0 e0 args w
def dN(args:Array Value)(w:World):(callFunc 251 args).run pgm w=.ok (.enter 251 args) w:=Y9 func251 e0 e0 args w
def Gt(cp:Nat)(k:jr)(ao:OA)(tn tc:Nat)(t:La_)(bo:OA)(n cb:Nat)(m:La_)(w:World)(hk:X0 w cp k)(ht:t.length=tn)(ht1:tn<=10000)(htc:tn<=tc)(hlt:zr w ao (t.map B))(hn:m.length=n)(h1:16<=n)(h31:n<=20000)(hcb:n<=cb)(hl:zr w bo (m.map B)):Ca_ 248 #[pa_ cp,.slice ao tn tc,.slice bo n cb] w λe w'=>∃v,e=.returned (.tuple #[v,.int .i64 0])/\w'.ownsRow w.heap.size 5 1 v n ((g9 k t m).map B)/\Below w.heap.size w w':=by
 have MM:=zc hk;refine aiT ?_;intro A3 Pk Nl A0;obtain⟨An,eI⟩:=n_ (g9 k t m);have uY:=ha_ (zeS k t m (enc k.ks (Yx k t m))=An/\True) ⟨by rw[eI];rfl,trivial⟩;rw[<-eI];refine aeC ?_;intro EW;clear hk ht hlt hn hl eI;go_enter func248,ntmps248;go_wp2_with (refine zh 151 _ [.pointer (some ⟨cp,0,none⟩)] _ rfl rfl rfl rfl ?_);refine anA EW ?_;intro A4 aF sy EW aB;generalize M1:w.heap.size=MN at*;refine aoo ?_;intro IZ To;clear M1;have az:=EW.g0.cell 0 _ rfl;go_wp2_with fail;have Pj:=zc (MM.later (To _ _ EW));obtain⟨a8c,ey,p,Np,Nq,a86,a8d,aH⟩:=Pj.ex;have EZ:=zc aH;clear aH;refine(Bk 252 MN cp k (enc k.ks) ao tn tc t bo n cb m _ Pj dM
  (λw' b hb' zge=>Gg MN cp a8c ey p Np Nq a86 a8d k b w' ((hb'.cell (p:=⟨MN,0,none⟩) aB).trans az) (EZ.later hb') zge) (λb=>qw _ _) A3 ht1 htc (Pk.below (To _ _ EW)) Nl h1 h31 hcb (A0.below (To _ _ EW))).mono ?_
 exact ana
def Gu(cp:Nat)(k:jr)(ao:OA)(tn tc:Nat)(t:La_)(bo:OA)(n cb:Nat)(m:La_)(w:World)(hk:X0 w cp k)(ht:t.length=tn)(ht1:tn<=10000)(htc:tn<=tc)(hlt:zr w ao (t.map B))(hn:m.length=n)(h1:16<=n)(h31:n<=20000)(hcb:n<=cb)(hl:zr w bo (m.map B)):Ca_ 247 #[pa_ cp,.slice ao tn tc,.slice bo n cb] w λe w'=>∃v,e=.returned (.tuple #[v,.int .i64 0])/\w'.ownsRow w.heap.size 5 1 v n ((ld k t m).map B)/\Below w.heap.size w w':=by
 have MM:=zc hk;refine aiT ?_;intro A3 Pk Nl A0;obtain⟨An,eI⟩:=n_ (ld k t m);have uY:=ha_ (zeS k t m (dec k.ks (Yx k t m))=An/\True) ⟨by rw[eI];rfl,trivial⟩;rw[<-eI];refine aeC ?_;intro EW;clear hk ht hlt hn hl eI;go_enter func247,ntmps247;go_wp2_with (refine zh 151 _ [.pointer (some ⟨cp,0,none⟩)] _ rfl rfl rfl rfl ?_);refine anA EW ?_;intro A4 aF sy EW aB;generalize M1:w.heap.size=MN at*;refine aoo ?_;intro IZ To;clear M1;have az:=EW.g0.cell 0 _ rfl;go_wp2_with fail;have Pj:=zc (MM.later (To _ _ EW));obtain⟨a8c,ey,p,Np,Nq,a86,a8d,aH⟩:=Pj.ex;have EZ:=zc aH;clear aH;refine(Bk 251 MN cp k (dec k.ks) ao tn tc t bo n cb m _ Pj dN
  (λw' b hb' zge=>Gh MN cp a8c ey p Np Nq a86 a8d k b w' ((hb'.cell (p:=⟨MN,0,none⟩) aB).trans az) (EZ.later hb') zge) (λb=>jN _ _) A3 ht1 htc (Pk.below (To _ _ EW)) Nl h1 h31 hcb (A0.below (To _ _ EW))).mono ?_
 exact ana
def gd(alg:Int)(h:zd6 alg n=0):(alg=1/\n=32)\/(alg=2/\(n=16\/n=24\/n=32))\/(alg=3/\0<n/\n<=128):=by
 unfold zd6 at h;by_cases ag:alg=1
 ·rw[if_pos ag] at h;by_cases aM:n=32
  ·exact .inl ⟨ag,aM⟩
  ·rw[if_neg aM] at h;omega
 ·rw[if_neg ag] at h;by_cases aM:alg=2
  ·rw[if_pos aM] at h;by_cases ag:n=16\/n=24\/n=32
   ·exact .inr (.inl ⟨aM,ag⟩)
   ·rw[if_neg ag] at h;omega
  ·rw[if_neg aM] at h;by_cases ag:alg=3
   ·rw[if_pos ag] at h;by_cases aM:0<n/\n<=128
    ·exact .inr (.inr ⟨ag,aM⟩)
    ·rw[if_neg aM] at h;omega
   ·rw[if_neg ag] at h;omega
def CN(alg:Int)(h:zd6 alg n≠0):(alg=1/\n≠32/\zd6 alg n=2)\/(alg=2/\(n≠32/\n≠16/\n≠24)/\zd6 alg n=2)\/(alg=3/\(n=0\/128<n)/\zd6 alg n=2)\/((alg≠1/\alg≠2/\alg≠3)/\zd6 alg n=8):=by
 unfold zd6 at h |-;by_cases ag:alg=1
 ·rw[if_pos ag] at h |-;by_cases aM:n=32
  ·rw[if_pos aM] at h;exact absurd rfl h
  ·rw[if_neg aM];exact .inl ⟨ag,aM,rfl⟩
 ·rw[if_neg ag] at h |-;by_cases aM:alg=2
  ·rw[if_pos aM] at h |-;by_cases ij:n=16\/n=24\/n=32
   ·rw[if_pos ij] at h;exact absurd rfl h
   ·rw[if_neg ij];exact .inr (.inl ⟨aM,ae,rfl⟩)
  ·rw[if_neg aM] at h |-;by_cases ij:alg=3
   ·rw[if_pos ij] at h |-;by_cases ik:0<n/\n<=128
    ·rw[if_pos ik] at h;exact absurd rfl h
    ·rw[if_neg ik];exact .inr (.inr (.inl ⟨ij,ae,rfl⟩))
   ·rw[if_neg ij];exact .inr (.inr (.inr ⟨⟨ag,aM,ij⟩,rfl⟩))
def Gv{alg:Int}{key:La_}(h:zd6 alg key.length=0):((vS alg key).alg:Int)=alg:=by rcases gd alg h with⟨rfl,_⟩|⟨rfl,_⟩|⟨rfl,_⟩<;>rfl
def J4:pgm.concrete 148=true:=e0
def J5:pgm.concrete 151=true:=e0
def cC(w:World)(own:Value):yo->Prop
 | .adi k=>∃b,own=.iface 148 (.pointer (some ⟨b,0,none⟩))/\cB w b k
 | .hct k=>∃b,own=.iface 151 (.pointer (some ⟨b,0,none⟩))/\X0 w b k
 | .aez k=>∃kp q p,own=.iface 158 (.agg #[.pointer (some ⟨kp,0,none⟩)])/\qu w kp q p k
def cC.later(h:cC w own k)(hb:Below w.heap.size w w'):cC w' own k:=by
 cases k with
 | adi k=>obtain⟨ax,ag,aM⟩:=h;exact⟨ax,ag,aM.later hb⟩
 | hct k=>obtain⟨ax,ag,aM⟩:=h;exact⟨ax,ag,aM.later hb⟩
 | aez k=>obtain⟨a8c,ey,ox,ag,aM⟩:=h;exact⟨a8c,ey,ox,ag,aM.later hb⟩
def cC.face(h:cC w own k):∃T x,own=.iface T x:=by
 cases k with
 | adi k=>obtain⟨ax,ag,aM⟩:=h;exact⟨_,_,ag⟩
 | hct k=>obtain⟨ax,ag,aM⟩:=h;exact⟨_,_,ag⟩
 | aez k=>obtain⟨a8c,ey,ox,ag,aM⟩:=h;exact⟨_,_,ag⟩
def xB(w:World)(cp:Nat)(k:yo):Prop:=∃v,cC w v k/\Blk w cp [.int .i64 (k.alg:Int),v] 122
def xB.later{cp:Nat}(h:xB w cp k)(hb:Below w.heap.size w w'):xB w' cp k:=by obtain⟨aK,ag,aM⟩:=h;exact⟨aK,ag.later hb,aM.below hb aM.lt⟩
def CO(q:Nat)(ao:OA)(n cap:Nat)(w:World)(h:n≠32):C_e 84 #[pa_ q,.slice ao n cap] w (.tuple #[.pointer none,.int .i64 2]):=by have aN:((n:Int) != 32)=true:=bq;go_enter func84,ntmps84;exact aiF
def rh(alg:Int)(q p:Nat)(ao:OA)(n cap:Nat)(b:La_)(w:World)(hb:b.length=n)(hw:zd6 alg n=0)(hc:n<=cap)(hl:zr w ao (b.map B))(ht:Tab w q p)(hg:yi w):Ca_ 65 #[pa_ q,.int .i64 alg,.slice ao n cap] w λe w'=>∃v,e=.returned (.tuple #[v,.int .i64 0])/\Std w.heap.size [q,p] w' (λw''=>cC w'' v (vS alg b))/\Below w.heap.size w w':=by
 rcases gd alg hw with⟨rfl,rfl⟩|⟨rfl,h2⟩|⟨rfl,h3,h4⟩
 ·have A6:=zc (Gl q p ao cap b w hb hc hl ht);have TM:=λ(x:Value)(w:World)=>run_makeInterface (P:=pgm) (w:=w) 148 x J4;clear hb hw hl ht hg;exact aro
 ·have A6:Calls pgm 85 #[.pointer (some ⟨q,0,none⟩),.slice ao n cap] w λe w'=>∃cp,e=.returned (.tuple #[.pointer (some ⟨cp,0,none⟩),.int .i64 0])/\Std w.heap.size [q,p] w' (λw''=>X0 w'' cp (uL (b.length/4) (b.length==32) b))/\Below w.heap.size w w':=by
   rcases h2 with rfl|rfl|rfl
   ·rw[hb];exact Gp q p ao cap b w ht hb hl
   ·rw[hb];exact Gn q p ao cap b w ht hb hl
   ·rw[hb];exact Gm q p ao cap b w ht hb hl
  have A6:=zc A6;have TM:=λ(x:Value)(w:World)=>run_makeInterface (P:=pgm) (w:=w) 151 x J5;clear hb hw hl ht hg h2;exact aro
 ·refine(tN q p ao n cap b w hb h3 h4 hc hl ht hg).mono ?_;rintro e A4⟨a8c,rfl,aQ,Pq,sy⟩;exact⟨_,rfl,λS w'' hS hu=>⟨a8c,q,p,rfl,⟨⟨aQ.tab.boxes.up hu (hS _ (.inr ab)),aQ.tab.tab.up hu (hS _ (.inr ab))⟩,aQ.fit,aQ.blk.up hu (hS _ (.inl Pq))⟩⟩,sy⟩
def Q3(alg:Int)(q p:Nat)(ao:OA)(n cap:Nat)(b:La_)(w:World)(hb:b.length=n)(hw:zd6 alg n=0)(hc:n<=cap)(hl:zr w ao (b.map B))(ht:Tab w q p)(hg:yi w):Ca_ 40 #[pa_ q,.int .i64 alg,.slice ao n cap] w λe w'=>∃cp,e=.returned (.tuple #[pa_ cp,.int .i64 0])/\Std w.heap.size [q,p] w' (λw''=>xB w'' cp (vS alg b))/\Below w.heap.size w w':=by have A6:=zc (rh alg q p ao n cap b w hb hw hc hl ht hg);have a1L:=zc (Gv (alg:=alg) (key:=b) (by rw[hb];exact hw));clear hb hw hl ht hg;obtain⟨Pp,MR⟩:=n_ (vS alg b);rw[<-MR] at A6 a1L |-;clear MR;go_enter func40,ntmps40;go_wp2_with fail;refine A6.out.mono ?_;rintro e A4⟨aK,rfl,Tu,sy⟩;obtain⟨iD,ef,rfl⟩:=Tu.self.face;have Pu:=zc Tu;have uX:=zc sy;have Ts:=zc sy.size;clear Tu;go_wp2_with (refine zh 122 _ [.int .i64 alg,.iface iD ef] _ rfl rfl rfl rfl ?_);intro Ev aF Et;have uX:=zc (uX.trans (Et.mono uX.size));have Pu:=ha_ (Std w.heap.size [q,p] Ev (λw''=>xB w'' A4.heap.size Pp)) (λS w'' hS hu=>⟨_,Pu.later Et S w'' hS hu,by rw[a1L.o];exact aF.up hu (hS _ (.inl Ts))⟩);clear Et;go_wp2;go_ret2;exact⟨_,rfl,Pu,uX⟩
def ma(alg:Int)(q:Nat)(ao:OA)(n cap:Nat)(w:World)(hw:zd6 alg n≠0):Ca_ 65 #[pa_ q,.int .i64 alg,.slice ao n cap] w λe w'=>∃v,e=.returned (.tuple #[v,.int .i64 (zd6 alg n)])/\w=w':=by
 rcases CN alg hw with⟨rfl,h,e⟩|⟨rfl,h,e⟩|⟨rfl,h,e⟩|⟨h,e⟩
 ·rw[e];have A6:=zc (CO q ao n cap w h);have TM:=λ(x:Value)(w:World)=>run_makeInterface (P:=pgm) (w:=w) 148 x J4;exact arA
 ·rw[e];have A6:=zc (CM q ao n cap w h);have TM:=λ(x:Value)(w:World)=>run_makeInterface (P:=pgm) (w:=w) 151 x J5;exact arA
 ·rw[e];exact(pF q ao n cap w h).mono (λe w' h=>⟨_,h⟩)
 ·rw[e];exact(pH q alg ao n cap w h.1 h.2.1 h.2.2).mono (λe w' h=>⟨_,h⟩)
def QN(alg:Int)(q:Nat)(ao:OA)(n cap:Nat)(w:World)(hw:zd6 alg n≠0):C_e 40 #[pa_ q,.int .i64 alg,.slice ao n cap] w (.tuple #[.pointer none,.int .i64 (zd6 alg n)]):=by have A6:=zc (ma alg q ao n cap w hw);have aN:(((zd6 alg n:Nat):Int) != 0)=true:=bq;clear hw;generalize zd6 alg n=ai at*;go_enter func40,ntmps40;go_wp2_with fail;refine A6.out.mono ?_;rintro ai A4⟨aK,rfl,rfl⟩;exact aiF
def Bl(cp:Nat)(k:yo)(w:World)(hc:xB w cp k):C_e 92 #[pa_ cp] w (.int .i64 (k.alg:Int)):=by obtain⟨aK,ag,aM⟩:=hc;have az:=aM.cell 0 _ rfl;clear ag aM;generalize k.alg=eT at*;go_enter func92,ntmps92;exact aeJ
def VM(cp:Nat)(k:yo)(w:World)(hc:xB w cp k):C_e 102 #[pa_ cp] w (.int .i64 (k.least:Int)):=by
 obtain⟨aK,ag,aM⟩:=hc;have az:=aM.cell 0 _ rfl;clear ag aM;cases k with
 | adi k =>
  have az:w.cell? ⟨cp,0,none⟩=some (.int .i64 1):=az;exact asc
 | hct k =>
  have az:w.cell? ⟨cp,0,none⟩=some (.int .i64 2):=az;exact asc
 | aez k =>
  have az:w.cell? ⟨cp,0,none⟩=some (.int .i64 3):=az;exact asc
def gg(cp:Nat)(k:yo)(t:Value)(bo:OA)(n cb:Nat)(back:Bool)(w:World)(hc:xB w cp k)(hn:n<k.least):C_e 82 #[pa_ cp,t,.slice bo n cb,.bool back] w (.tuple #[.slice none 0 0,.int .i64 7]):=by have SW:=zc (VM cp k w hc);have aN:decide (n<k.least)=true:=decide_eq_true hn;clear hc;generalize k.least=Mv at*;go_enter func82,ntmps82;exact anq
def dO(cp:Nat)(k:yo)(ao:OA)(tn tc:Nat)(t:La_)(bo:OA)(n cb:Nat)(m:La_)(w:World)(hk:xB w cp k)(ht:t.length=tn)(ht1:tn<=10000)(htc:tn<=tc)(hlt:zr w ao (t.map B))(hn:m.length=n)(h1:k.least<=n)(h31:n<=20000)(hcb:n<=cb)(hl:zr w bo (m.map B)):Ca_ 82 #[pa_ cp,.slice ao tn tc,.slice bo n cb,.bool false] w λe w'=>∃v,e=.returned (.tuple #[v,.int .i64 0])/\w'.ownsRow w.heap.size 5 1 v n ((xG k t m false).map B)/\Below w.heap.size w w':=by
 have A0:=zc (VM cp k w hk);have aN:decide ((n:Int)<(k.least:Int))=false:=bq;obtain⟨v,aL,a6M⟩:=hk;have az:=a6M.cell 1 _ rfl;cases k with
 | adi k =>
  obtain⟨ax,rfl,aL⟩:=aL;have A6:=zc (Gr ax k ao tn tc t bo n cb m w aL ht ht1 htc hlt hn h1 h31 hcb hl);refine arf ?_;intro aN A0;have uY:=ha_ (xG (.adi k) t m false=KS k t m/\True) ⟨rfl,trivial⟩;exact ar6
 | hct k =>
  obtain⟨ax,rfl,aL⟩:=aL;have A6:=zc (Gt ax k ao tn tc t bo n cb m w aL ht ht1 htc hlt hn h1 h31 hcb hl);refine arf ?_;intro aN A0;have uY:=ha_ (xG (.hct k) t m false=g9 k t m/\True) ⟨rfl,trivial⟩;exact ar6
 | aez k =>
  obtain⟨a8c,ey,ox,rfl,aL⟩:=aL;have A6:=zc (FI a8c ey ox k ao tn tc t bo n cb m w aL ht ht1 htc hlt hn h1 h31 hcb hl);refine arK ?_;intro aN A0;have uY:=ha_ (xG (.aez k) t m false=ze6 k [t] m false/\True) ⟨rfl,trivial⟩;exact ar6
def me(cp:Nat)(k:yo)(ao:OA)(tn tc:Nat)(t:La_)(bo:OA)(n cb:Nat)(m:La_)(w:World)(hk:xB w cp k)(ht:t.length=tn)(ht1:tn<=10000)(htc:tn<=tc)(hlt:zr w ao (t.map B))(hn:m.length=n)(h1:k.least<=n)(h31:n<=20000)(hcb:n<=cb)(hl:zr w bo (m.map B)):Ca_ 82 #[pa_ cp,.slice ao tn tc,.slice bo n cb,.bool true] w λe w'=>∃v,e=.returned (.tuple #[v,.int .i64 0])/\w'.ownsRow w.heap.size 5 1 v n ((xG k t m true).map B)/\Below w.heap.size w w':=by
 have A0:=zc (VM cp k w hk);have aN:decide ((n:Int)<(k.least:Int))=false:=bq;obtain⟨v,aL,a6M⟩:=hk;have az:=a6M.cell 1 _ rfl;cases k with
 | adi k =>
  obtain⟨ax,rfl,aL⟩:=aL;have A6:=zc (Gs ax k ao tn tc t bo n cb m w aL ht ht1 htc hlt hn h1 h31 hcb hl);refine arf ?_;intro aN A0;have uY:=ha_ (xG (.adi k) t m true=KT k t m/\True) ⟨rfl,trivial⟩;exact ar6
 | hct k =>
  obtain⟨ax,rfl,aL⟩:=aL;have A6:=zc (Gu ax k ao tn tc t bo n cb m w aL ht ht1 htc hlt hn h1 h31 hcb hl);refine arf ?_;intro aN A0;have uY:=ha_ (xG (.hct k) t m true=ld k t m/\True) ⟨rfl,trivial⟩;exact ar6
 | aez k =>
  obtain⟨a8c,ey,ox,rfl,aL⟩:=aL;have A6:=zc (FJ a8c ey ox k ao tn tc t bo n cb m w aL ht ht1 htc hlt hn h1 h31 hcb hl);refine arK ?_;intro aN A0;have uY:=ha_ (xG (.aez k) t m true=ze6 k [t] m true/\True) ⟨rfl,trivial⟩;exact ar6
def Jf(cp:Nat)(k:yo)(ao:OA)(tn tc:Nat)(t:La_)(bo:OA)(n cb:Nat)(m:La_)(back:Bool)(w:World)(hk:xB w cp k)(ht:t.length=tn)(ht1:tn<=10000)(htc:tn<=tc)(hlt:zr w ao (t.map B))(hn:m.length=n)(h1:k.least<=n)(h31:n<=20000)(hcb:n<=cb)(hl:zr w bo (m.map B)):Ca_ 82 #[pa_ cp,.slice ao tn tc,.slice bo n cb,.bool back] w λe w'=>∃v,e=.returned (.tuple #[v,.int .i64 0])/\w'.ownsRow w.heap.size 5 1 v n ((xG k t m back).map B)/\Below w.heap.size w w':=by
 cases back with
 | false=>exact dO cp k ao tn tc t bo n cb m w hk ht ht1 htc hlt hn h1 h31 hcb hl
 | true=>exact me cp k ao tn tc t bo n cb m w hk ht ht1 htc hlt hn h1 h31 hcb hl
def Bm(cp:Nat)(k:yo)(ao:OA)(tn tc:Nat)(t:La_)(bo:OA)(n cb:Nat)(m:La_)(w:World)(hk:xB w cp k)(ht:t.length=tn)(ht1:tn<=10000)(htc:tn<=tc)(hlt:zr w ao (t.map B))(hn:m.length=n)(h1:k.least<=n)(h31:n<=20000)(hcb:n<=cb)(hl:zr w bo (m.map B)):Ca_ 69 #[pa_ cp,.slice ao tn tc,.slice bo n cb] w λe w'=>∃v,e=.returned (.tuple #[v,.int .i64 0])/\w'.ownsRow w.heap.size 5 1 v n ((xG k t m false).map B)/\Below w.heap.size w w':=by have SW:=zc (Jf cp k ao tn tc t bo n cb m false w hk ht ht1 htc hlt hn h1 h31 hcb hl);clear hk ht hlt hn hl h1;go_enter func69,ntmps69;go_wp2_with fail;refine SW.mono ?_;rintro e A4⟨aK,rfl,I4,sy⟩;exact amh
def Ub(cp:Nat)(k:yo)(ao:OA)(tn tc:Nat)(bo:OA)(n cb:Nat)(w:World)(hc:xB w cp k)(hn:n<k.least):C_e 69 #[pa_ cp,.slice ao tn tc,.slice bo n cb] w (.tuple #[.slice none 0 0,.int .i64 7]):=by have SW:=zc (gg cp k (.slice ao tn tc) bo n cb false w hc hn);clear hc hn;go_enter func69,ntmps69;exact anq
def mf(cp:Nat)(k:yo)(ao:OA)(tn tc:Nat)(t:La_)(bo:OA)(n cb:Nat)(m:La_)(w:World)(hk:xB w cp k)(ht:t.length=tn)(ht1:tn<=10000)(htc:tn<=tc)(hlt:zr w ao (t.map B))(hn:m.length=n)(h1:k.least<=n)(h31:n<=20000)(hcb:n<=cb)(hl:zr w bo (m.map B)):Ca_ 61 #[pa_ cp,.slice ao tn tc,.slice bo n cb] w λe w'=>∃v,e=.returned (.tuple #[v,.int .i64 0])/\w'.ownsRow w.heap.size 5 1 v n ((xG k t m true).map B)/\Below w.heap.size w w':=by have SW:=zc (Jf cp k ao tn tc t bo n cb m true w hk ht ht1 htc hlt hn h1 h31 hcb hl);clear hk ht hlt hn hl h1;go_enter func61,ntmps61;go_wp2_with fail;refine SW.mono ?_;rintro e A4⟨aK,rfl,I4,sy⟩;exact amh
def Uc(cp:Nat)(k:yo)(ao:OA)(tn tc:Nat)(bo:OA)(n cb:Nat)(w:World)(hc:xB w cp k)(hn:n<k.least):C_e 61 #[pa_ cp,.slice ao tn tc,.slice bo n cb] w (.tuple #[.slice none 0 0,.int .i64 7]):=by have SW:=zc (gg cp k (.slice ao tn tc) bo n cb true w hc hn);clear hc hn;go_enter func61,ntmps61;exact anq
def CP(cp:Nat)(k:yo)(ao:OA)(tn tc:Nat)(t:La_)(g off n cb:Nat)(cur:Lb_)(m:La_)(back:Bool)(w:World)(hk:xB w cp k)(ht:t.length=tn)(ht1:tn<=10000)(htc:tn<=tc)(hlt:zr w ao (t.map B))(hn:m.length=n)(h1:k.least<=n)(h31:n<=20000)(hcb:n<=cb)(hb:Blk w g cur 5)(hcur:(cur.drop off).take n=m.map B)(hcl:off+n<=cur.length):Ca_ 81 #[pa_ cp,.slice ao tn tc,.slice (some ⟨g,off,none⟩) n cb,.bool back] w λe w'=>e=.returned (.int .i64 0)/\Blk w' g (splice cur off ((xG k t m back).map B)) 5/\zJ g w w':=by
 have A0:zr w (some ⟨g,off,none⟩) (m.map B):=by
  have ag:=(hb.lies.drop off).take n;rw[hcur] at ag;simpa[add_eq] using ag
 have A3:=zc (Jf cp k ao tn tc t (some ⟨g,off,none⟩) n cb m back w hk ht ht1 htc hlt hn h1 h31 hcb A0);have uX:=zc hb;have a6o:=zc hb.lt;have I7:=zc hcl;have I9:=zc (zJ.refl g w);obtain⟨er,et⟩:=n_ (xG k t m back);have Pn:=ha_ (xG k t m back=er/\er.length=n) ⟨et.symm,by rw[et,vl _ _ (by rw[hn];exact h1)];exact hn⟩;rw[<-et];rw[<-et] at A3;clear hk ht hlt hn h1 A0 hb hcur et hcl;go_enter func81,ntmps81;go_wp2_with fail;refine A3.mono ?_;rintro e A4⟨aK,rfl,I4,sy⟩;obtain⟨eT,iy,rfl,az,_,aR⟩:=zz I4;have A0:=zc aR;have uX:=zc (uX.below sy a6o);refine agO ?_;intro I9;clear aR;go_wp2_with (refine uX.zgm off (er.map B) rfl rfl rfl rfl underlying23 zm (λ_=>rfl) A0 (by rw[zaa,Pn.2];exact(Nat.min_self n).symm) (by rw[zaa,Pn.2];have:=I7.o;omega) (zj _) ?_);intro A4 hb oE;have uX:=zc hb;have I9:=zc (I9.trans (zJ.zd1 oE));go_wp2;go_ret;exact⟨rfl,uX,I9⟩
def cD(F:List Nat):Nat->Prop:=λi=>i∉F
def xA(F:List Nat)(w:World)(X:World->Prop):Prop:=∀w',Up (cD F) w w'->X w'
def xA.self(h:xA F w X):X w:=h w (Up.refl _ w)
def xA.at(h:xA F w X)(hu:Up (cD F) w w'):xA F w' X:=λw'' hv=>h w'' (hu.trans hv)
def xA.below(h:xA F w X)(hb:Below w.heap.size w w'):xA F w' X:=h.at (Up.of_below hb)
def Ud{w'':World}(hb:Below w.heap.size w w')(hF:∀i∈F',i∈F\/w.heap.size<=i)(hu:Up (cD F') w' w''):Up (cD F) w w'' :=
 ⟨zat hb.size hu.size,λi hi hl=>(hu.block i (λh=>(hF i h).elim hi (λh2=>absurd hl (Nat.not_lt.2 h2))) (za1 hl hb.size)).trans (hb.block i hl)⟩
def xA.wider(h:xA F w X)(hb:Below w.heap.size w w')(hF:∀i∈F',i∈F\/w.heap.size<=i):xA F' w' X:=λw'' hu=>h w'' (Ud hb hF hu)
def xA.zgS{L:List Nat}{w2:World}(h:Std base L w X)(hb:Below w.heap.size w w2)(hF:∀i∈F,w.heap.size<=i\/i<base/\i∉L):xA F w2 X :=
 λw' hu=>h (λi=>i<w.heap.size->cD F i) w' (λi hi hl hf=>by
  rcases hF i hf with h1|⟨h1,h2⟩
  ·omega
  ·rcases hi with hi|hi
   ·omega
   ·exact h2 hi) ⟨zat hb.size hu.size,λk hk hl=>(hu.block k (hk hl) (za1 hl hb.size)).trans (hb.block k hl)⟩
def qc(q:Nat)(v:Vol)(np:Nat)(xp:Value)(sp:Nat)(load:Value):Lb_ :=
 [.pointer (some ⟨q,0,none⟩),.int .i64 v.alg,.int .i64 v.size,.int .i64 v.zdO,.pointer (some ⟨np,0,none⟩),xp,.int .i64 v.moved,.slice (some ⟨sp,0,none⟩) (v.size*v.zdO) (v.size*v.zdO),load]
def mg(F:List Nat)(w:World)(xp:Value):Option yo->Prop
 | none=>xp=.pointer none
 | some k=>∃x,xp=.pointer (some ⟨x,0,none⟩)/\xA F w (λw'=>xB w' x k)
def mg.imp{o:Option yo}(h:mg F w xp o)(hk:∀X,xA F w X->xA F' w' X):mg F' w' xp o:=by
 cases o with
 | none=>exact h
 | some k=>obtain⟨ef,aH,aQ⟩:=h;exact⟨ef,aH,hk _ aQ⟩
structure yp(ty:TypeId)(F:List Nat)(w:World)(q vp sp:Nat)(v:Vol)(load:Value)(np:Nat)(xp:Value):Prop where
 zei:v.zeq
 ne:vp≠sp
 inF:vp∈F/\sp∈F
 cells:Blk w vp (qc q v np xp sp load) ty
 store:Blk w sp (v.store.map B) 5
 now:xA F w (λw'=>xB w' np v.now)
 next:mg F w xp v.next
def yp.below(h:yp ty F w q vp sp v load np xp)(hb:Below w.heap.size w w'):yp ty F w' q vp sp v load np xp :=
 ⟨h.zei,h.ne,h.inF,h.cells.below hb h.cells.lt,h.store.below hb h.store.lt,h.now.below hb,h.next.imp λ_ k=>k.below hb⟩
def yp.wider(h:yp ty F w q vp sp v load np xp)(hb:Below w.heap.size w w')(hF:∀i∈F',i∈F\/w.heap.size<=i)(hin:vp∈F'/\sp∈F'):yp ty F' w' q vp sp v load np xp :=
 ⟨h.zei,h.ne,hin,h.cells.below hb h.cells.lt,h.store.below hb h.store.lt,h.now.wider hb hF,h.next.imp λ_ k=>k.wider hb hF⟩
def yp.free(h:yp ty F w q vp sp v load np xp)(ho:zJ b w w')(hb:b∈F)(h1:vp≠b)(h2:sp≠b):yp ty F w' q vp sp v load np xp :=
 have hu:Up (cD F) w w':=Up.zgj ho (λe=>e hb)
 ⟨h.zei,h.ne,h.inF,h.cells.zeD ho h1,h.store.zeD ho h2,h.now.at hu,h.next.imp λ_ k=>k.at hu⟩
def yp.zec(h:yp ty F w q vp sp v load np xp)(n:Nat):(v.zec n=v.now/\(v.next=none\/v.moved<=n))\/(∃k,v.next=some k/\n<v.moved/\v.zec n=k):=by
 unfold Vol.zec;cases hx:v.next with
 | none=>exact .inl ⟨rfl,.inl rfl⟩
 | some k =>
  by_cases aD:n<v.moved
  ·exact .inr ⟨k,rfl,aD,by simp[aD]⟩
  ·exact .inl ⟨by simp[aD],.inr ae⟩
def rm{e:TypeId}{v:Value}(h:w.ownsRow base e 1 v n xs)(hn:0<n):∃g cap tl,v=.slice (some ⟨g,0,none⟩) n cap/\Blk w g (xs++tl) e/\base<=g/\n<=cap:=by
 rcases h.2 with⟨_,h0⟩|⟨g,cap,cur,rfl,hb,hg,h1,h2,h3,ht⟩
 ·omega
 ·refine⟨g,cap,cur.toList.drop (n*1),rfl,?_,hb,h1⟩;rw[<-ht,List.take_append_drop];unfold Blk;rw[hg]
def Gw{tl:Lb_}(h:Blk w g (xs++tl) ty):zr w (some ⟨g,0,none⟩) xs:=by
 have:=h.lies.take xs.length
 rwa [List.take_left] at this
def gi(S:Nat->Prop)(w:World)(X:World->Prop):Prop:=∀w',Up S w w'->X w'
def gi.later(h:gi S w X)(hb:Below w.heap.size w w'):gi S w' X:=λw'' hu=>h w'' ((Up.of_below hb).trans hu)
def gi.only(h:gi S w X)(ho:Only b w w')(hn:¬S b):gi S w' X:=λw'' hu=>h w'' ((Up.zd1 ho hn).trans hu)
def zr.offs{w1:World}{ao:OA}(h0:zr w ao xs)(h1:zr w1 ao xs)(hg:w.heap.size<=g):∀w',zJ g w1 w'->zr w' ao xs:=by intro w' oE aq au aw;obtain⟨ax,ay,ai,az⟩:=h1 aq au aw;obtain⟨om,a9K,aj,AV⟩:=h0 aq au aw;rw[ai] at aj;cases aj;have aF:=block_lt_of_cell AV;refine⟨ax,ay,ai,?_⟩;have a8D:=oE.block ax (block_lt_of_cell az) ae;simp only[World.cell?] at az |-;rw[a8D];exact az
def zJ.zha(h:w.grownBy w' (some g)):zJ g w w':=⟨h.os,h.tape,h.output,h.size,λk hk hne=>h.block k hk (λe=>hne (zaW e))⟩
def Far(g:Nat)(w:World)(s:Str):Prop:=s.bs.length<=s.cap/\∀w',zJ g w w'->zr w' s.a (s.bs.map B)
def Far.str(h:Far g w s):s.In w:=⟨h.1,h.2 w (zJ.refl _ _)⟩
def Far.zeD(h:Far g w s)(ho:zJ g w w'):Far g w' s:=⟨h.1,λw'' h2=>h.2 w'' (ho.trans h2)⟩
def Far.move{g':Nat}(h:Far g w s)(ho:zJ g w w')(hg:g'=g\/w.heap.size<=g'):Far g' w' s:=by
 rcases hg with rfl|hg
 ·exact h.zeD ho
 ·exact⟨h.1,(h.2 w (zJ.refl _ _)).offs (h.2 w' ho) hg⟩
def YK(t:Int):Int:=if 0<=t/\t<=16 then 0 else 4
def VO(t:Int)(w:World):C_e 110 #[.int .i64 t] w (.int .i64 (YK t)):=by
 unfold YK;by_cases ag:0<=t
 ·have aN:decide (t<0)=false:=by simp;omega
  by_cases aM:t<=16
  ·have eK:decide (t>16)=false:=by simp;omega
   rw[if_pos ⟨ag,aM⟩];exact as9
  ·have eK:decide (t>16)=true:=by simp;omega
   rw[if_neg (λh=>aM h.2)];exact as9
 ·have aN:decide (t<0)=true:=by simp;omega
  rw[if_neg (λh=>ag h.1)];exact as9
def rA:(pgm.info? 23).map (λi=>(i.zero,i.size,i.bytes))=some (some (.slice none 0 0),1,24):=e0
def mu(t:Int)(n a:Value)(w:World)(ht:YK t=4):C_e 91 #[.int .i64 t,n,a] w (.tuple #[.slice none 0 0,.int .i64 4]):=by go_enter func91,ntmps91;go_wp2_with fail;refine(VO t _).mono ?_;rintro ai A4⟨rfl,rfl⟩;rw[ht];exact aiF
def Ww(t:Nat)(no:OA)(nn nc:Nat)(zdR:La_)(ado:OA)(N adc:Nat)(ss:List Str)(w:World)(ht:t<=16)(hn:zdR.length=nn)(hnb:nn<=10000)(hl:zr w no (zdR.map B))(hN:ss.length=N)(hNb:N<=400)(hs:yI w ado ss)(hsb:∀s∈ss,s.bs.length<=10000):Ca_ 91 #[.int .i64 t,.slice no nn nc,.slice ado N adc] w λe w'=>∃g cap sts,e=.returned (.tuple #[.slice (some ⟨g,0,none⟩) (2+N) cap,.int .i64 0])/\sts.length=2+N/\rowOf sts=xZ t zdR (rowOf ss)/\yI w' (some ⟨g,0,none⟩) sts/\Below w.heap.size w w':=by
 obtain⟨aS,aO,aT,aU,aV⟩:=info_parts rA;refine aeW ?_;intro NK;refine af6 ?_;intro Nl A0;refine ajJ hN hs hsb ?_;intro Ii a0f a0L;have eI:YK t=0:=by unfold YK;rw[if_pos (by omega)]
 obtain⟨x8,l8z,aH,Am,aaZ⟩:∃(x8:UInt8)(l8z:Int),x8=zaq (8*t)/\IntKind.i64.wrap (8*(t:Int))=l8z/\l8z%256=(x8.toNat:Int):=by
  refine⟨_,8*t,rfl,by rw[IntWalk.i64_in]<;>omega,?_⟩;rw[zaO bw];omega
 refine ajU aH ?_;intro EZ;clear aH;clear aO aT aU aV hn hl hN hs hsb;go_enter func91,ntmps91;go_wp2_with fail;refine(VO t _).mono ?_;rintro e A4⟨rfl,rfl⟩;rw[eI];go_wp2_with (at_make;refine kW 23 5 (.int .u8 0) 1 16 rfl rfl rfl rfl underlying23 z5 rfl rfl rfl ae ew ?_);intro A4 aF Eu;have aF:Blk A4 w.heap.size ((zg 16).map B) 5:=aF;have az:=aF.cell 15 (B 0) rfl;have eP:=aF.free 15;have uX:=ha_ (Blk (A4.setCell ⟨w.heap.size,15,none⟩ (B x8)) w.heap.size ((zg 15++[x8]).map B) 5) (aF.set 15 (B x8));have SM:=zc (Eu.setCell (p:=⟨w.heap.size,15,none⟩) (zab _) (B x8));clear aF Eu;go_wp2_with fail;generalize A4.setCell ⟨w.heap.size,15,none⟩ (B x8)=A4 at*;clear az eP;refine(vU no nn nc (zdR.map B) _ kj ae (A0.below SM) (zj _)).mono ?_;rintro e Ev⟨aK,rfl,I4,Ey⟩;obtain⟨Ny,ab0,rfl,ab1,_,aR⟩:=zz I4;have uX:=zc (uX.below Ey uX.lt);have SM:=zc (SM.trans (Ey.mono SM.size));have A0:=zc aR;clear aR Ey;simp only[id];go_wp2;have Ts:=zc SM.size;have SM:=zc (SM.trans ((zu Ev (.cells #[.slice (some ⟨w.heap.size,0,none⟩) 16 16,.slice Ny nn ab0] 23)).mono Ts));have I3:=ha_ (Far Ev.heap.size (Ev.alloc (.cells #[.slice (some ⟨w.heap.size,0,none⟩) 16 16,.slice Ny nn ab0] 23)) ⟨some ⟨w.heap.size,0,none⟩,16,zg 15++[x8]⟩) ⟨by simp[zg],(uX.lies).far (zu _ _) (zab _)⟩;have N6:=ha_ (Far Ev.heap.size (Ev.alloc (.cells #[.slice (some ⟨w.heap.size,0,none⟩) 16 16,.slice Ny nn ab0] 23)) ⟨Ny,ab0,zdR⟩) ⟨by rw[Nl.o];exact ab1,A0.far (zu _ _) (zab _)⟩;have NR:World.ownsRow (Ev.alloc (.cells #[.slice (some ⟨w.heap.size,0,none⟩) 16 16,.slice Ny nn ab0] 23)) w.heap.size 23 1 (.slice (some ⟨Ev.heap.size,0,none⟩) 2 2) 2 (([⟨some ⟨w.heap.size,0,none⟩,16,zg 15++[x8]⟩,⟨Ny,ab0,zdR⟩]:List Str).map Str.val):=by
  have aF:=Blk.new Ev [.slice (some ⟨w.heap.size,0,none⟩) 16 16,.slice Ny nn ab0] 23;refine Xg ?_ Ts rfl bk;simpa[Str.val,Nl.o,zg] using aF
 have I9:=zc NR;generalize Ev.alloc (.cells #[.slice (some ⟨w.heap.size,0,none⟩) 16 16,.slice Ny nn ab0] 23)=A4 at*;clear NR;rw[aaZ];clear Am aaZ;go_loopw [10,30] (λz c wr=>∃(i g cap:Nat)(sts:List Str),i<=N/\c=.int .i64 i/\z=.slice (some ⟨g,0,none⟩) (2+i) cap/\Hid (wr.ownsRow w.heap.size 23 1 (.slice (some ⟨g,0,none⟩) (2+i) cap) (2+i) (sts.map Str.val))/\Hid (∀s∈sts,Far g wr s)/\Hid (rowOf sts=(zg 15++[x8])::zdR::(rowOf ss).take i/\True)/\Hid (Below w.heap.size w wr)) (λ_ c _=>N-(intOf c).toNat);case atStart =>
  refine⟨0,Ev.heap.size,2,[⟨some ⟨w.heap.size,0,none⟩,16,zg 15++[x8]⟩,⟨Ny,ab0,zdR⟩],ae,rfl,rfl,I9,?_,⟨rfl,trivial⟩,SM⟩;intro s hs;simp only[zau,zbr,or_false] at hs;rcases hs with rfl|rfl
  ·exact I3
  ·exact N6
 case round =>
  obtain⟨i,g,cap,sts,aO,rfl,rfl,I9,I3,uY,SM⟩:=hrel;have oG:=(I9.lt g rfl).2;by_cases aB:i<N
  ·obtain⟨⟨a7D,oX,a7f⟩,hs⟩:∃s,ss[i]? = some s:=⟨ss[i]'(by rw[Ii.o];exact aB),ab⟩
   have ab2:=zc (a0f.each _ (zad hs));have hsb:=a0L.o _ (zad hs);simp only at hsb;obtain⟨ax,ay,rfl,az⟩:=(a0f.below SM).lies i (.slice a7D a7f.length oX) (by rw[zay,hs];rfl);have OB:=ha_ ((rowOf ss).take (i+1)=(rowOf ss).take i++[a7f]) (by rw[zbi];unfold rowOf;rw[zay,hs];rfl);clear hs;go_wp2_with fail;refine(vU a7D a7f.length oX (a7f.map B) _ (zaa _) ae (ab2.lies.below SM) (zj _)).mono ?_;rintro e A4⟨aK,rfl,I4,M6⟩;obtain⟨eT,iy,rfl,AV,_,_⟩:=zz I4;have Nl:=ha_ (Far g A4 ⟨eT,iy,a7f⟩) ⟨AV,cq I4 oG⟩;have I9:=zc (zo I9 M6);have I3:=ha_ (∀s∈sts,Far g A4 s) (λs hs=>(I3 s hs).zeD (zJ.of_below M6));have aT:=SM.size;have SM:=zc (SM.trans (M6.mono aT));have aT:=SM.size;have aF:=Blk.new A4 [.slice eT a7f.length iy] 23;have ab3:=zu A4 (.cells #[.slice eT a7f.length iy] 23);have uX:=zc (And.intro aF ab3);clear M6 az aF ab3;simp only[id];go_wp2_with (at_builtin;refine wpList_append_lies _ rfl (.tmp 34) (.tmp 37) 93 rfl w.heap.size 23 aS (.slice none 0 0) 1 24 underlying93 NK.1 NK.2.1 NK.2.2.1 NK.2.2.2 rfl bd _ (2+i) (sts.map Str.val) rfl (zo I9 uX.2) ⟨A4.heap.size,0,none⟩ 1 1 [.slice eT a7f.length iy] rfl rfl uX.1.lies.news (by intro au aw;simp at aw;subst aw;rfl) ae ew ae (zat aT uX.2.size) _ rfl ?_);intro ie oF Ev OH oG ab4 a0k;have oE:=zJ.zha oG;have ab4:ie=g\/(A4.alloc (.cells #[.slice eT a7f.length iy] 23)).heap.size<=ie:=ab4.imp (λe=>(zaW e).symm) (λe=>by rw[e];show(A4.heap.push _).size<=_;rw[Array.size_push];exact zab _);have I3:=ha_ (∀s∈sts++[⟨eT,iy,a7f⟩],Far ie Ev s) (by
    intro s hs;have ag:Far g A4 s:=by
     rcases List.mem_append.1 hs with h|h
     ·exact I3 s h
     ·simp at h;subst h;exact Nl
    exact(ag.zeD (zJ.of_below uX.2)).move oE ab4)
   have SM:=zc (zU (SM.trans (uX.2.mono aT)) (zo I9 uX.2) oG (zab _) (zat aT uX.2.size));have I9:=ha_ (Ev.ownsRow w.heap.size 23 1 (.slice (some ⟨ie,0,none⟩) (2+(i+1)) oF) (2+(i+1)) ((sts++[(⟨eT,iy,a7f⟩:Str)]).map Str.val)) (by rw[zaD];exact OH);have uY:=ha_ (rowOf (sts++[(⟨eT,iy,a7f⟩:Str)])=(zg 15++[x8])::zdR::(rowOf ss).take (i+1)/\True) ⟨by
    have h:=uY.1;rw[OB.o];unfold rowOf at h |-;rw[zaD,h];rfl,trivial⟩
   clear OH oG oE ab4;go_wp2;go_roundw;case rel=>exact⟨i+1,ie,oF,_,ae,hM,rfl,I9,I3,uY,SM⟩
   case measure=>simp[intOf];omega
  ·obtain rfl:i=N:=ae;have P7:=ha_ (yI wr (some ⟨g,0,none⟩) sts) ⟨zr.zef I9,λs hs=>(I3 s hs).str⟩;have Ru:=ha_ (sts.length=2+i) (by have:=I9.1;rw[zaa] at this;omega);go_wp2;go_ret2;refine⟨g,cap,sts,rfl,Ru,?_,P7,SM⟩;rw[uY.1,xZ,EZ.1,zai];unfold rowOf;rw[zaa,Ii.o];exact zab _
def cL(h:n<=1000000):Value.int .u64 (n:Int)=L (zae n)/\True:=⟨by
 have:(zae n).toNat=n:=UInt64.toNat_ofNat_of_lt' ki;simp[L,this],trivial⟩
def Uj(out:La_)(l:List (La_))(b:La_):zeN out (l++[b])=zeN out l++(zw (zae b.length)++b):=by unfold zeN;rw[List.foldl_append];rfl
def Bn(oo:OA)(on oc:Nat)(out:La_)(po:OA)(N pc:Nat)(ss:List Str)(w:World)(hon:out.length=on)(hob:on<=20000)(hoc:on<=oc)(hol:zr w oo (out.map B))(hN:ss.length=N)(hNb:N<=20)(hs:yI w po ss)(hsb:∀s∈ss,s.bs.length<=10000):Ca_ 114 #[.slice oo on oc,.slice po N pc] w λe w'=>∃ao cap,e=.returned (.slice ao (zeN out (rowOf ss)).length cap)/\(zeN out (rowOf ss)).length<=cap/\zr w' ao ((zeN out (rowOf ss)).map B)/\Below w.heap.size w w':=by
 subst hon;refine ajJ hol hN hs ?_;intro PA Ii a0f;have a0L:=zc hsb;clear hol hN hs hsb;go_enter func114,ntmps114;go_wp2;go_loopw [0,10] (λz c wr=>∃(i cap:Nat)(ao:OA)(o:La_),i<=N/\c=.int .i64 i/\z=.slice ao o.length cap/\Hid (o=zeN out ((rowOf ss).take i)/\True)/\o.length<=20000+i*10008/\o.length<=cap/\Hid (zr wr ao (o.map B))/\Hid (Below w.heap.size w wr)) (λ_ c _=>N-(intOf c).toNat);case atStart=>exact⟨0,oc,oo,out,ae,rfl,rfl,⟨rfl,trivial⟩,ae,hoc,PA,Below.refl _ _⟩
 case round =>
  obtain⟨i,cap,ao,o,aO,rfl,rfl,I9,hol,ab5,A0,SM⟩:=hrel;by_cases aB:i<N
  ·obtain⟨⟨a7D,oX,a7f⟩,hs⟩:∃s,ss[i]? = some s:=⟨ss[i]'(by rw[Ii.o];exact aB),ab⟩
   have ab2:=zc (a0f.each _ (zad hs));have hsb:=a0L.o _ (zad hs);simp only at hsb;obtain⟨ax,ay,rfl,az⟩:=(a0f.below SM).lies i (.slice a7D a7f.length oX) (by rw[zay,hs];rfl);have OB:=ha_ ((rowOf ss).take (i+1)=(rowOf ss).take i++[a7f]) (by rw[zbi];unfold rowOf;rw[zay,hs];rfl);have Ru:=zc (cL (n:=a7f.length) ae);have PH:=zc (zy (zae a7f.length));obtain⟨a8a,Ic⟩:=n_ (zw (zae a7f.length));rw[<-Ic] at PH;have ab6:=s_ Ic;have Ts:=zc SM.size;clear hs Ic;go_wp2_with fail;rw[Ru.1];refine(qj _ _).mono ?_;refine ajX ab6 ?_;intro A4 Eu;have SM:=zc (SM.trans (Eu.mono Ts));have A0:=zc (A0.below Eu);have aT:=SM.size;clear Eu az;go_wp2_with (refine aqF ?_);intro Ev aF Et;go_wp2_with (refine aF.zdP rfl rfl rfl (cs:=a8a.map B) rfl qI ev k6 (zj _) ?_);intro IX aF oE;have SM:=zc (zi (SM.trans (Et.mono aT)) oE aT);have A0:=zc (A0.below (zi Et oE (zab _)));have uX:=zc aF;have aU:=SM.size;generalize A4.heap.size=om at*;clear Et;go_wp2_with fail;generalize Am:IX.alloc (.cells #[.slice ao o.length cap,.slice (some ⟨om,0,none⟩) 8 8,.slice a7D a7f.length oX] 23)=A4;have a0f:=ha_ (yI A4 (some ⟨IX.heap.size,0,none⟩) [⟨ao,cap,o⟩,⟨some ⟨om,0,none⟩,8,a8a⟩,⟨a7D,oX,a7f⟩]) (by
    rw[<-Am];refine⟨?_,?_⟩
    ·have:=(Blk.new IX [.slice ao o.length cap,.slice (some ⟨om,0,none⟩) 8 8,.slice a7D a7f.length oX] 23).lies;simpa[Str.val,PH.o] using this
    ·intro s hs;simp only[zau,zbr,or_false] at hs;rcases hs with rfl|rfl|rfl
     ·exact⟨ab5,A0.below (zu _ _)⟩
     ·exact⟨by rw[PH.o];exact zab _,uX.lies.below (zu _ _)⟩
     ·exact⟨ab2.le,(ab2.lies.below SM).below (zu _ _)⟩)
   have SM:=ha_ (Below w.heap.size w A4) (by rw[<-Am];exact SM.trans ((zu _ _).mono aU));have aT:=SM.size;clear Am;obtain⟨An,eI⟩:=n_ (kx [⟨ao,cap,o⟩,⟨some ⟨om,0,none⟩,8,a8a⟩,⟨a7D,oX,a7f⟩]);have NH:An.length<=o.length+8+a7f.length:=by rw[eI];simp[kx,PH.o];omega
   have uY:=ha_ (An=zeN out ((rowOf ss).take (i+1))/\True) ⟨by rw[eI,OB.o,Uj,<-I9.1,ab6.1];simp[kx],trivial⟩;refine(vV (some ⟨IX.heap.size,0,none⟩) 3 3 [⟨ao,cap,o⟩,⟨some ⟨om,0,none⟩,8,a8a⟩,⟨a7D,oX,a7f⟩] _ rfl ae a0f (by rw[<-eI];omega)).mono ?_;rintro e A4⟨aK,rfl,I4,M6⟩;rw[<-eI] at I4;obtain⟨eT,iy,rfl,az,_,aR⟩:=zz I4;have A0:=zc aR;have SM:=zc (SM.trans (M6.mono aT));clear aR M6 eI;go_wp2;go_roundw;case rel=>exact⟨i+1,iy,eT,An,ae,hM,rfl,uY,ae,az,A0,SM⟩
   case measure=>simp[intOf];omega
  ·obtain rfl:i=N:=ae;have uY:=ha_ (o=zeN out (rowOf ss)/\True) ⟨by
    rw[I9.1,zai];unfold rowOf;rw[zaa,Ii.o];exact zab _,trivial⟩
   go_wp2;go_ret;rw[<-uY.1];exact⟨ao,cap,rfl,ab5,A0,SM⟩
def Uk(t:Nat)(no:OA)(nn nc:Nat)(zdR:La_)(ado:OA)(N adc:Nat)(ss:List Str)(w:World)(ht:t<=16)(hn:zdR.length=nn)(hnb:nn<=5000)(hnc:nn<=nc)(hl:zr w no (zdR.map B))(hN:ss.length=N)(hNb:N<=20)(hs:yI w ado ss)(hsb:∀s∈ss,s.bs.length<=10000):Ca_ 98 #[.int .i64 t,.slice no nn nc,.slice ado N adc] w λe w'=>∃ao cap,e=.returned (.tuple #[.slice ao (JL t zdR (rowOf ss)).length cap,.int .i64 0])/\(JL t zdR (rowOf ss)).length<=cap/\zr w' ao ((JL t zdR (rowOf ss)).map B)/\Below w.heap.size w w':=by
 obtain⟨aS,aO,aT,aU,aV⟩:=info_parts z5;refine aeW ?_;intro NK;refine af6 ?_;intro Nl A0;refine ajJ hN hs hsb ?_;intro Ii a0f a0L;have Ru:=zc (cL (n:=N) ae);have PH:=zc (zy (zae N));obtain⟨a8a,Ic⟩:=n_ (zw (zae N));rw[<-Ic] at PH;have ab6:=s_ Ic;have eI:YK t=0:=by unfold YK;rw[if_pos (by omega)]
 obtain⟨x8,aH,Am⟩:∃(x8:UInt8),x8=zaq t/\(t:Int)%256=(x8.toNat:Int):=by
  refine⟨_,rfl,?_⟩;rw[zaO bw];omega
 refine ajU aH ?_;intro EZ;have ab7:=ha_ (Value.int .u8 (t:Int)=B x8/\True) ⟨by
  have:(t:Int)=x8.toNat:=by rw[<-Am];omega
  rw[this],trivial⟩
 clear aH Ic Am;clear aO aT aU aV hn hl hN hs hsb;go_enter func98,ntmps98;go_wp2_with fail;refine(VO t _).mono ?_;rintro e A4⟨rfl,rfl⟩;rw[eI];go_wp2_with fail;rw[Ru.1];refine(qj _ _).mono ?_;refine ajX ab6 ?_;intro A4 Eu;go_wp2_with (refine aqF ?_);intro Ev aF Et;go_wp2_with (refine aF.zdP rfl rfl rfl (cs:=a8a.map B) rfl qI ev k6 (zj _) ?_);intro IX aF oE;have aU:=Eu.size;have SM:=zc (zi (Eu.trans (Et.mono aU)) oE aU);have uX:=zc aF;have aT:=SM.size;generalize A4.heap.size=ax at*;clear Et Eu aU;have aR:=zu IX (.cells #[.int .u8 (t:Int)] 5);have I4:World.ownsRow (IX.alloc (.cells #[.int .u8 (t:Int)] 5)) w.heap.size 5 1 (.slice (some ⟨IX.heap.size,0,none⟩) 1 1) 1 ([x8].map B):=by
  have aF:=Blk.new IX [.int .u8 (t:Int)] 5;refine Xg ?_ aT rfl bk;have e:[x8].map B=[Value.int .u8 (t:Int)]:=by show[B x8]=_;rw[<-ab7.1]
  rw[e];exact aF
 have I9:=zc I4;have EB:=zc aR;clear I4 aR;go_wp2_with (at_builtin;refine z8 rfl (.tmp 21) (.tmp 22) 23 rfl w.heap.size 5 aS (.int .u8 0) 1 underlying23 NK.1 NK.2.1 NK.2.2.1 NK.2.2.2 rfl _ 1 ([x8].map B) rfl I9 (some ⟨ax,0,none⟩) 8 8 (a8a.map B) rfl (by rw[zaa];exact PH) (uX.lies.below EB) (zj _) ew ae (zat aT EB.size) ?_);intro aK MF I4 oG;have SM:=zc (zU (SM.trans (EB.mono aT)) I9 oG (zab _) (zat aT EB.size));obtain⟨eT,iy,rfl,az,_,aR⟩:=zz I4;have ER:=ha_ (zr MF eT ((x8::a8a).map B)) (by simpa using aR);have aT:=SM.size;clear oG aR;go_wp2_with fail;have EW:=ha_ (yI (MF.alloc (.cells #[.slice no nn nc] 23)) (some ⟨MF.heap.size,0,none⟩) [⟨no,nc,zdR⟩]) (by
  refine⟨?_,?_⟩
  ·have:=(Blk.new MF [.slice no nn nc] 23).lies;simpa[Str.val,Nl.o] using this
  ·intro s hs;simp only[zau,zbr,or_false] at hs;subst hs;exact⟨by rw[Nl.o];exact hnc,(A0.below SM).below (zu _ _)⟩)
 have SM:=zc (SM.trans ((zu MF (.cells #[.slice no nn nc] 23)).mono aT));have ER:=zc (ER.below (zu MF (.cells #[.slice no nn nc] 23)));have aU:=SM.size;generalize MF.alloc (.cells #[.slice no nn nc] 23)=A4 at*;refine(Bn eT 9 iy (x8::a8a) (some ⟨MF.heap.size,0,none⟩) 1 1 [⟨no,nc,zdR⟩] _ k6 ae az ER rfl ae EW (by intro s hs;simp at hs;subst hs;have:=Nl.o;simp;omega)).mono ?_;rintro e A4⟨eU,A5,rfl,AV,aR,Eu⟩;have PO:=zc aR;have SM:=zc (SM.trans (Eu.mono aU));have aV:=SM.size;have Ec:(zeN (x8::a8a) (rowOf [(⟨no,nc,zdR⟩:Str)])).length<=20000:=by
  rw[vq];have:=Nl.o;simp[rowOf,PH.o];omega
 have ab8:=ha_ (zeN (zeN (x8::a8a) (rowOf [(⟨no,nc,zdR⟩:Str)])) (rowOf ss)=JL t zdR (rowOf ss)/\True) ⟨by
  unfold JL;rw[<-EZ.1,show(rowOf ss).length=N by unfold rowOf;rw[zaa];exact Ii.o,ab6.1];rfl,trivial⟩
 generalize zeN (x8::a8a) (rowOf [(⟨no,nc,zdR⟩:Str)])=oC at*;clear aR Eu;go_wp2_with fail;refine(Bn eU oC.length A5 oC ado N adc ss _ rfl Ec AV PO Ii hNb (a0f.below SM) a0L).mono ?_;rintro e A4⟨eT,iy,rfl,az,aR,Eu⟩;rw[ab8.1] at az aR |-;have A0:=zc aR;have SM:=zc (SM.trans (Eu.mono aV));clear aR Eu;go_wp2;go_ret2;exact⟨eT,iy,rfl,az,A0,SM⟩


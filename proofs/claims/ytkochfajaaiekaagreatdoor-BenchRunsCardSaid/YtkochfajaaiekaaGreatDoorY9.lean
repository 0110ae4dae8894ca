/- Laws. -/
import Derived.Test.YtkochfajaaiekaaGreatDoorY5
set_option linter.all false
set_option maxHeartbeats 16000000
set_option maxRecDepth 100000
open Array renaming replicate_succ->zcc,replicate_zero->zcd
open List renaming append_toArray->zck,cons_append->zbq,length_cons->zaj,length_map->zaa,length_nil->zas,map_map->zcH,nil_append->zaB,push_toArray->zcp,size_toArray->zbT,take_of_length_le->zai
open Nat renaming le_of_lt->zbQ,le_refl->zab,reduceAdd->zcR,reduceSub->zcS
open UInt64 renaming ofNat->zae
namespace Go.Proofs.YtkochfajaaiekaaGreatDoor
open Go.Proofs.Tryz
open Go.Proofs.Tryz renaming prog->pgm
open RowKit
variable{P:Program}{w w':World}{ao:OA}
def zT.rows(i:Nat)(d:Tmp)(e:TypeId)(m:Nat)(vs:List (Lb_)):zT:=⟨i,d,.cells vs.flatten.toArray e,λn=>.slice (some ⟨n,0,none⟩) m m⟩
@[go_sem,simp] theorem zj3(i:Nat)(d:Tmp)(e:TypeId)(m:Nat)(vs:List (Lb_)):(zT.rows i d e m vs).dst=d:=rfl
@[go_sem,simp] theorem zj4(i:Nat)(d:Tmp)(e:TypeId)(m:Nat)(vs:List (Lb_))(n:Nat):(zT.rows i d e m vs).val n=.slice (some ⟨n,0,none⟩) m m:=rfl
@[go_sem,simp] theorem zj5(i:Nat)(d:Tmp)(e:TypeId)(m:Nat)(vs:List (Lb_)):(zT.rows i d e m vs).obj=.cells vs.flatten.toArray e:=rfl
def B8{ops:Array Oper}{a:Act}(i:Nat)(d:Tmp)(t e:TypeId)(n m:Nat)(z:Value)(vs:List (Lb_)){parts:Array (Nat×Operand)}(o:Oper)(ho:ops[i]? = some o)(hop:o.op=.buildSlice t m parts)(hd:o.dst=some d)(hg:o.guard=none)(hsz:d<a.tmps.size)(hp':(parts.toList.map λp=>(p.1,a.eval p.2))=(vs.zipIdx 0).map λp=>(p.2,Value.agg p.1.toArray))(ht:P.underlying t=some (.slice e))(hs:(P.info? e).map (λi=>(i.zero,i.size))=some (some z,n))(hz:z.cells.size=n)(hn:0<n)(hm:vs.length=m)(hm0:0<m)(hb:m*n<=16777216)(hv:∀v∈vs,v.length=n):(zT.rows i d e m vs).Fits P ops a w:=by
 refine⟨hsz,o,ho,hd,hg,by simp[hop],λw' _=>?_⟩;have eE:(parts.map λ(i,x)=>(i,a.eval x))=((vs.zipIdx 0).map λp=>(p.2,Value.agg p.1.toArray)).toArray:=by
  exact arv
 have aP:=YC (P:=P) w' t e n m z vs _ ht hs hz hn hm hm0 hb hv eE;unfold execOp;simp only[hop,Sem.run_bind,aP,Result.andThen_ok,Sem.run_pure];rfl
section
attribute [local irreducible] zA zG zH zE zR
def JS(kp q p j i:Nat)(k:zx)(x:La_)(w:World)(hk:qu w kp q p k)(hj:j<=1000)(hi:i<=1000)(hx:x.length=16):C_b 135 #[pa_ kp,.int .i64 j,.int .i64 i,.agg (x.map B).toArray] w (.agg ((zeF k j i x).map B).toArray):=by
 refine aj1 ?_;intro MM Ng EW Ps Pt NA NK Pr A0;have EZ:=zc hx;have Pb:=l_ x 16 hx;have ah:decide ((j:Int) < -1)=false:=ab;have ah:decide ((i:Int)<0)=false:=ab;have ah:decide ((j:Int)>=0)=true:=ab;have ah:decide ((0:Int)<=(j:Int))=true:=ab;have EM:=ha_ (zeF k j i x=rounds ([offset k j i].foldl both x) [k.j,k.i,k.l,zg 16]) rfl;clear hk hx;go_enter func135,ntmps135;go_wp2_with (refine zh 144 _ (x.map B) _ rfl rfl rfl rfl ?_);refine anz EW MM ?_;intro A4 aF sy EW MM aB;go_wp2_with (refine aqB ?_);refine anz EW MM ?_;intro w2 aF sy EW MM aB;generalize M1:w.heap.size=MN at*;generalize A4.heap.size=MP at*;have IZ:=zc M1;clear M1;have az:=λ(x:zL w2.drew)=>(MM.drew.later x.later).c0;go_wp2_with fail;refine xq [0,1,2,3,4,5,6,7,11,12,13,14,15,16,17,18,19,20,21,22,23] [8,9,10] [25,26] [zT.rows 24 48 144 4 [k.j.map B,k.i.map B,k.l.map B,(zg 16).map B]] e0 e0 ?_;rintro A4 rfl;iterate 4 refine m10 ?_
 refine z7 (EW.drew.get 1 rfl).range (EW.drew.get 1 rfl).lt zd Pb rfl rfl rfl (λK hK=>?_);refine ali ?_;clear hK K;iterate 6 refine m10 ?_
 refine z7 MM.drew.rj MM.drew.blk.lt zd Pr rfl rfl rfl (λK hK=>?_);refine ali ?_;clear hK K;iterate 3 refine m10 ?_
 refine z7 MM.drew.ri MM.drew.blk.lt zd NK rfl rfl rfl (λK hK=>?_);refine ali ?_;clear hK K;iterate 3 refine m10 ?_
 refine z7 MM.drew.rl MM.drew.blk.lt zd A0 rfl rfl rfl (λK hK=>?_);refine ali ?_;clear hK K;refine mq0 ?_;refine xF ⟨?_,?_,zab _⟩
 ·intro ib eP;simp only[List.mem_singleton] at eP;subst eP;refine B8 24 48 209 144 16 4 _ _ _ rfl rfl rfl rfl ab rfl underlying209 zV rfl ae rfl ae ae (by simp[Ps.o,Pt.o,NA.o,ze])
 refine ak2 ?_;intro u w5 hl5 K hK;clear az;have MM:=zc (MM.drew.later hl5);have EW:=zc (EW.drew.later hl5);refine(B7 kp q p j i k _ MM hj hi).mono ?_;rintro ai A4⟨rfl,ED⟩;have MM:=zc (MM.later ED);have EW:=zc (EW.later ED);have PA:=zc (Kj k j i);generalize offset k j i=er at*;refine amM ?_;clear hK K ED hl5;refine zQ rfl rfl (λu w7 hl7 K hK=>?_);refine qD 209 144 16 1 _ [er.map B] rfl rfl underlying209 zV rfl ae rfl ae ae (by simp[PA.o]) ?_;intro A4 aF Eu;have MM:=zc (MM.later (hl7.trans Eu));have EW:=zc (EW.later (hl7.trans Eu));refine hK _ _ Eu ?_;clear hK K Eu hl7;have uX:=ha_ (y7 16 A4 (some ⟨w7.heap.size,0,none⟩) [er]) ⟨by simp[PA.o],k5⟩;go_simp;refine ak2 ?_;intro u w9 hl9 K hK;refine(VC x (some ⟨w7.heap.size,0,none⟩) 1 1 [er] _ EZ rfl ae (uX.below hl9)).mono ?_;rintro ai A4⟨rfl,Eu⟩;have MM:=zc (MM.later (hl9.trans Eu));have EW:=zc (EW.later (hl9.trans Eu));have PB:=zc (vy [er] x EZ);generalize [er].foldl both x=ep at*;go_simp;refine hK _ _ Eu ?_;clear hK K Eu hl9;refine qA (λn w11 zia hn hbn=>?_);go_simp;have MM:=zc (MM.later zia);have EW:=zc (EW.later zia);have PC:Blk w11 n [k.j.map B,k.i.map B,k.l.map B,(zg 16).map B].flatten 144:=hbn;have MC:=ha_ (Qy w11 (some ⟨n,0,none⟩) [k.j,k.i,k.l,zg 16]) ⟨by simp[Ps.o,Pt.o,NA.o,ze],by have:=PC.lies;simpa using this⟩;clear zia hbn PC;refine Pm ?_;intro K hK;refine(VA q p ep (some ⟨n,0,none⟩) 4 4 [k.j,k.i,k.l,zg 16] _ MM.tab PB rfl ae MC).mono ?_;rintro ai A4⟨rfl,PD⟩;rw[<-EM.o];have EW:=zc (EW.later PD);have P3:=l_ (zeF k j i x) 16 (yU _ _ _ _);exact aiY
def bj(kp q p i:Nat)(k:zx)(x:La_)(w:World)(hk:qu w kp q p k)(hi:i<=1000)(hx:x.length=16):C_b 135 #[.pointer (some ⟨kp,0,none⟩),.int .i64 (-1),.int .i64 i,.agg (x.map B).toArray] w (.agg ((zfy k i x).map B).toArray):=by
 obtain⟨aS,aO,aT,aU,aV⟩:=info_parts Qz;refine aeW ?_;intro NK;have PF:=zc hk.fit;have MM:=zc hk;have Ng:=hk.blk.lt;refine aeC ?_;intro EW;have NA:=zc hk.fit.ll;have A0:=l_ k.l 16 hk.fit.ll;have EZ:=zc hx;have Pb:=l_ x 16 hx;have ah:decide ((i:Int)<0)=false:=ab;have EM:=ha_ (zfy k i x=rounds ([multiple (zae i) k.l].foldl both x) (ze5 k 10)) rfl;clear hk hx aO aT aU aV;go_enter func135,ntmps135;go_wp2_with (refine zh 144 _ (x.map B) _ rfl rfl rfl rfl ?_);refine anz EW MM ?_;intro A4 aF sy EW MM aB;go_wp2_with (refine aqB ?_);refine anz EW MM ?_;intro Ev aF sy EW MM aB;generalize M1:w.heap.size=MN at*;generalize A4.heap.size=MP at*;have IZ:=zc M1;clear M1;go_wp2;go_loopw [9,50] (λv c wr=>∃m:Nat,m<=10/\c=.int .i64 m/\Hid (wr.ownsRow Ev.heap.size 144 16 v m (flat (ze5 k m)))/\Hid (Below Ev.heap.size Ev wr)) (λ_ c _=>10-(intOf c).toNat);case atStart=>exact⟨0,ae,rfl,vm _ _ _ _,Below.refl _ _⟩
 case round =>
  obtain⟨m,eh,rfl,OS,uX⟩:=hrel;by_cases aB:m<10
  ·obtain⟨m3,eh⟩:=n_ (m%3);have eI:(m:Int)%3=(m3:Int):=ae;have PG:=ha_ (ze5 k (m+1)=ze5 k m++[zf4 k m3]) (by rw[eh];exact sP k m);have AG:m3<3:=ae;clear eh;go_wp2_with fail;refine(Li kp q p m3 k _ (MM.later uX) AG).mono ?_;rintro ai IX⟨rfl,Eu⟩;have OS:=zc (zo OS Eu);have uX:=zc (uX.trans (Eu.mono uX.size));have PH:=zc (Jn PF m3);generalize zf4 k m3=er at*;clear Eu;go_wp2_with (refine qL 209 144 16 1 _ [er.map B] rfl rfl rfl underlying209 zV rfl ae rfl ae ae k6 ?_);intro MF aF M6;try rw[show([er.map B]:List (Lb_)).flatten=er.map B by simp] at aF
   have EB:=zc aF;have OS:=zc (zo OS M6);have uX:=zc (uX.trans (M6.mono uX.size));clear M6;go_wp2_with (at_builtin;refine wpList_append_own _ rfl (.tmp 53) (.tmp 58) 209 rfl Ev.heap.size 144 aS (.agg ((zg 16).map B).toArray) 16 16 underlying209 NK.1 NK.2.1 NK.2.2.1 NK.2.2.2 rfl bd _ _ _ rfl OS ⟨IX.heap.size,0,none⟩ 1 1 (er.map B) rfl ?c0 EB.lies.news (zj er) ?c3 ?c4 uX.size ?_);case c0=>rw[zaa,PH.o]
   case c3=>unfold maxLen;omega
   case c4=>omega
   intro aK A4 I4 NS _;rw[<-QX,<-PG.o] at I4;have EB:=zc (zU uX OS NS (zab _) uX.size);have PI:=zc I4;clear NS;go_wp2;go_roundw;case rel=>exact⟨m+1,ae,hM,PI,EB⟩
   case measure=>simp[intOf];omega
  ·obtain rfl:m=10:=by omega
   obtain⟨ie,O1,rfl,O2,O3⟩:=OS.form ae;have EW:=zc (EW.later uX);have MM:=zc (MM.later uX);have uY:=ha_ (Qy wr (some ⟨ie,0,none⟩) (ze5 k 10)) ⟨sQ PF 10,zr.zef OS⟩;have Nv:=zc (gK k 10);generalize ze5 k 10=PJ at*;clear O2 O3;have az:=λ(x:zL wr.drew)=>(MM.drew.later x.later).c0;go_wp2_with fail;refine zp [0,1,2,3,4,5,6,7,8,9,10,14,11,12,13,15,16] e0 e0 ?_;rintro IX rfl;iterate 4 refine m1R ?_
   refine am5 EW Pb ?_;intro K hK;refine ali ?_;clear hK K;iterate 5 refine m1R ?_
   refine zB MM.drew.rl MM.drew.blk.lt zd A0 rfl rfl rfl rfl (λK hK=>?_);refine ali ?_;clear hK K;refine m1R ?_;clear az;refine Pm ?_;intro K hK;rw[show(Value.int .u64 (i:Int))=L (zae i) by simp[L];omega];refine(QA (zae i) k.l _ NA).mono ?_;rintro ai MF⟨rfl,M6⟩;have EW:=zc (EW.drew.later M6);have MM:=zc (MM.drew.later M6);have uY:=ha_ (Qy MF (some ⟨ie,0,none⟩) PJ) ⟨uY.each,uY.lies.below ((Below.refl _ wr).drew.trans M6)⟩;have A6:=zc (wP (zae i) k.l);generalize multiple (zae i) k.l=er at*;go_simp;refine hK _ _ M6 ?_;clear hK K M6;refine Sm ?_;intro K hK;refine qD 209 144 16 1 _ [er.map B] rfl rfl underlying209 zV rfl ae rfl ae ae (by simp[A6.o]) ?_;intro A4 aF Eu;have MM:=zc (MM.later Eu);have EW:=zc (EW.later Eu);have uY:=ha_ (Qy A4 (some ⟨ie,0,none⟩) PJ) ⟨uY.each,uY.lies.below Eu⟩;refine hK _ _ Eu ?_;clear hK K Eu;have uX:=ha_ (y7 16 A4 (some ⟨MF.heap.size,0,none⟩) [er]) ⟨by simp[A6.o],k5⟩;go_simp;refine Pm ?_;intro K hK;refine(VC x (some ⟨MF.heap.size,0,none⟩) 1 1 [er] _ EZ rfl ae uX).mono ?_;rintro ai A4⟨rfl,Eu⟩;have MM:=zc (MM.later Eu);have EW:=zc (EW.later Eu);have uY:=ha_ (Qy A4 (some ⟨ie,0,none⟩) PJ) ⟨uY.each,uY.lies.below Eu⟩;have PB:=zc (vy [er] x EZ);generalize [er].foldl both x=ep at*;refine alv ?_;clear hK K Eu;refine aiz ?_;intro K hK;refine(VA q p ep (some ⟨ie,0,none⟩) 10 O1 PJ _ MM.tab PB Nv ae uY).mono ?_;rintro ai A4⟨rfl,PD⟩;rw[<-EM.o];have EW:=zc (EW.later PD);have P3:=l_ (zfy k i x) 16 (xE _ _ _);exact aiY
def St.old{w0:World}{base:Nat}{L:List (Nat×Lb_×TypeId)}(h:St w0 base w L)(e:w0.heap.size=base):Below w0.heap.size w0 w:=by rw[e];exact h.bel
def yF(w:World)(t e:TypeId)(size:Nat)(ht:P.underlying t=some (.slice e))(hs:(P.info? e).map (·.size)=some 1)(ao:OA)(len cap lo:Nat)(i:Int)(hi':i=lo)(h1:lo<=len):(Instr.slice t (.slice ao len cap) (some (.int .i64 i)) none none).run P w=.ok (.slice (yz ao cap lo) (len-lo) (cap-lo)) w:=by
 subst hi';cases hq:P.info? e with
 | none=>rw[hq] at hs;cases hs
 | some x =>
  have aH:x.size=1:=c9;simp[Instr.slice,Instr.sliceBounds,Instr.sliceBound,run_underlying ht,sizeOf,typeInfo,hq,aH,asIntOf,h1,yz]
def JW(b:La_)(m:UInt8)(s:Nat):(kz b m s).length=b.length+1+wW (b.length+1) s:=by simp[kz,jM];omega
def bB(a b:La_)(w:World)(ha:a.length=16)(hb:b.length=16):C_b 162 #[.agg (a.map B).toArray,.agg (b.map B).toArray] w (.agg ((both a b).map B).toArray):=by have IT:=zc ha;have IU:=zc hb;refine aeC ?_;intro EW;have Nd:=zc (Vg a b ha hb);clear ha hb;go_enter func162,ntmps162;exact asW
def zr.ze0{bs:La_}{cap:Nat}(h:zr w ao (bs.map B))(hcap:bs.length<=cap)(a:Nat):zr w (yz ao cap a) ((bs.drop a).map B):=by
 have:=h.cutA (by rw[zaa];exact hcap) a bs.length
 rwa [zai ab,<-List.map_drop] at this
abbrev fO(kp j bb bs n:Nat)(ao:OA)(len cap:Nat)(us:Nat->Value):Act:={ tmps:=#[.pointer (some ⟨kp,0,none⟩),.int .i64 j,.slice ao len cap,us 3,us 4,us 5,.pointer (some ⟨bb,0,none⟩),.pointer (some ⟨bs,0,none⟩),.int .i64 n,us 9,us 10,us 11,us 12,us 13,us 14,us 15,us 16,us 17,us 18,us 19,us 20,us 21,us 22,us 23,us 24,us 25,us 26,us 27,us 28,us 29,us 30,us 31,us 32,us 33,us 34,us 35,us 36,us 37,us 38],defers:=[] }
def K3(kp j bb bs:Nat)(k:zx)(b:La_)(w:World)(l:Nat)(x:Act)(wr:World):Prop :=
 ∃(us:Nat->Value)(n len cap:Nat)(ao:OA)(sum r:La_),x=fO kp j bb bs n ao len cap us/\len<=cap/\n*16+len<=10000/\Hid (r.length=len)/\Hid (sum.length=16)/\Hid (zr w ao (r.map B)) /\
  Hid (St w bb wr [(bs,sum.map B,144),(bb,(zg 16).map B,144)])/\bb<bs /\
  ((l=1/\Hid (∃f,len<f/\Yl k j f n sum r=jU k j b))\/(l=0/\Hid (ZE k j sum r=jU k j b)))
def K3.intro{kp j bb bs:Nat}{k:zx}{b:La_}{l:Nat}{x:Act}{wr:World}(n len cap:Nat)(ao:OA)(sum r:La_)(hx:x=fO kp j bb bs n ao len cap (λi=>x.tmps.getD i undef))(h1:len<=cap)(h2:n*16+len<=10000)(h3:r.length=len)(h4:sum.length=16)(h5:zr w ao (r.map B))(h6:St w bb wr [(bs,sum.map B,144),(bb,(zg 16).map B,144)])(h7:bb<bs)(h8:(l=1/\Hid (∃f,len<f/\Yl k j f n sum r=jU k j b))\/(l=0/\Hid (ZE k j sum r=jU k j b))):K3 kp j bb bs k b w l x wr :=
 ⟨_,n,len,cap,ao,sum,r,hx,h1,h2,h3,h4,h5,h6,h7,h8⟩
def X3:Value->Nat
 | .slice _ n _=>n
 | _=>0
def FC(kp q p j:Nat)(k:zx)(ao:OA)(len cap:Nat)(b:La_)(w:World)(hk:qu w kp q p k)(hj:j<=1000)(hlen:b.length=len)(hlc:len<=cap)(hb:len<=10000)(hl:zr w ao (b.map B)):C_b 163 #[pa_ kp,.int .i64 j,.slice ao len cap] w (.agg ((jU k j b).map B).toArray):=by
 have MM:=zc hk;have Ng:=hk.blk.lt;refine aeC ?_;intro EW;have A2:=zc hlen;have A0:=zc hl;clear hk hlen hl;go_enter func163,ntmps163;go_wp2_with (refine aqB ?_);refine ast EW ?_;intro A4 sy EW aB;generalize M1:w.heap.size=MN at*;have IZ:=zc M1;clear M1;go_wp2_with fail;refine XY (K3 kp j MN A4.heap.size k b w) (λl x _=>if l=1 then X3 (x.tmps.getD 2 undef)+1 else 0) ?first ?pass;case first =>
  simp only[Y5];by_cases ag:len=0
  ·subst ag;go_wp2_with (refine aqB ?_);refine ast EW ?_;intro Ev sy EW II;go_wp2;refine wp_goto ?_;exact K3.intro 0 0 cap ao (zg 16) b rfl ae ae A2 (ze 16) A0 EW aB (.inr ⟨rfl,show ZE k j (zg 16) b=jU k j b by unfold jU;rw[if_pos A2.o]⟩)
  ·have ah:((len:Int)==0)=false:=by simp;omega
   go_wp2_with (refine aqB ?_);refine ast EW ?_;intro Ev sy EW II;go_wp2;refine⟨rfl,K3.intro 0 len cap ao (zg 16) b rfl hlc ae A2 (ze 16) A0 EW aB (.inl ⟨rfl,len+1,ae,?_⟩)⟩;unfold jU;rw[if_neg (by rw[A2.o];exact ag),A2.o]
 case pass =>
  clear aB;generalize A4.heap.size=S5;rintro l x oU⟨NU,n,len,cap,ao,S6,An,rfl,aM,ij,A2,EZ,uY,EW,ik,h8⟩;have Pb:=l_ S6 16 EZ;rcases h8 with⟨rfl,h8⟩|⟨rfl,h8⟩
  ·refine⟨_,rfl,?_⟩;simp only[Y5];obtain⟨ib,eP,aJ⟩:=h8.out;obtain⟨ib,rfl⟩:∃g,ib=g+1:=⟨ib-1,ae⟩
   have I3:=zc eP;have EM:=zc aJ;clear eP aJ h8;by_cases il:16<=len
   ·have aD:=ha_ (((n:Int)+1)=((n+1:Nat):Int)) ae;have EO:n<=1000:=ae;have eg:=λw=>yF (P:=pgm) w 23 5 1 underlying23 zm ao len cap 16 16 rfl il;have EM:=ha_ (Yl k j ib (n+1) (both S6 (zeF k j (n+1) (block An))) (An.drop 16)=jU k j b) (by rw[<-EM.o,Yl,if_pos (by rw[A2.o];exact il)]);go_wp2_with fail;refine agd ?_;rintro Ev rfl;have EW:=zc EW.drew;refine zB EW.g0.range EW.g0.lt zd Pb rfl rfl rfl rfl (λK hK=>?_);refine ali ?_;clear hK K;iterate 4 refine m1R ?_
    rw[aD.out];refine Pm ?_;intro K hK;refine(xj ao len cap An _ A2 (uY.below (EW.old IZ))).mono ?_;rintro ai IX⟨rfl,sy⟩;refine aex ?_;intro EW;have uX:=zc (zI An);generalize block An=er at*;refine ame ?_;clear hK K;refine Pm ?_;intro K hK;refine(JS kp q p j (n+1) k er _ (MM.later (EW.old IZ)) hj ae uX).mono ?_;rintro ai MF⟨rfl,sy⟩;refine aex ?_;intro EW;have EB:=zc (yU k j (n+1) er);generalize zeF k j (n+1) er=ep at*;refine ame ?_;clear hK K;refine Pm ?_;intro K hK;refine(bB S6 ep _ EZ EB).mono ?_;rintro ai w7⟨rfl,sy⟩;refine aex ?_;intro EW;have IM:=zc (zK S6 ep);generalize both S6 ep=S7 at*;refine ame ?_;clear hK K;refine aeA ?_;intro K hK;refine EW.g0.zd4 rfl rfl rfl zd (by rw[zaa];exact EZ) (by rw[zaa];exact IM) (zj _) (λw8 hb7 ho7=>hK _ _ ?_);clear hK K;have EW:=zc (EW.change 0 hb7 ho7 ae bq);clear hb7 ho7;refine aeS ?_;go_wp2;refine wp_goto ⟨K3.intro (n+1) (len-16) (cap-16) (yz ao cap 16) S7 (An.drop 16) ?_ ae ae (by rw[List.length_drop,A2.o]) IM (zr.ze0 uY (by rw[A2.o];exact aM) 16) EW ik (.inl ⟨rfl,ib,by have:=I3.o;omega,EM⟩),?_⟩
    ·rfl
    ·simp[X3];omega
   ·by_cases ag:len=0
    ·have ah:((len:Int)==0)=true:=bq;have EM:=ha_ (S6=jU k j b) (by rw[<-EM.o,Yl,if_neg (by rw[A2.o];exact il),if_pos (by rw[A2.o];exact ag)]);go_wp2_with (first|(refine EW.g0.zdS rfl rfl rfl zd Pb ?_)|(refine EW.g1.zdP rfl rfl rfl rfl zd ga Pb (zj _) ?_));intro MF aF oE;have ED:=zi EW.bel oE ae;go_wp2;rw[Exit.zeZ];refine aF.result rfl rfl rfl zd Pb ⟨g7,?_⟩;exact ahj
    ·have ah:((len:Int)==0)=false:=bq;have EM:=ha_ (ZE k j S6 An=jU k j b) (by rw[<-EM.o,Yl,if_neg (by rw[A2.o];exact il),if_neg (by rw[A2.o];exact ag)]);go_wp2;refine⟨rfl,K3.intro n len cap ao S6 An rfl aM ij A2 EZ uY EW ik (.inr ⟨rfl,EM⟩),?_⟩;simp
  ·refine⟨_,rfl,?_⟩;simp only[Y5];go_wp2_with fail;refine agd ?_;rintro Ev rfl;have EW:=zc EW.drew;refine zB EW.g0.range EW.g0.lt zd Pb rfl rfl rfl rfl (λK hK=>?_);refine ali ?_;clear hK K;iterate 3 refine m1R ?_
   refine Pm ?_;intro K hK;refine(Vw ao len cap 16 128 An _ A2 ae ae ae (uY.below (EW.old IZ))).mono ?_;rintro ai IX⟨aK,rfl,I4,sy⟩;obtain⟨Ny,oF,rfl,eS,S8,hl⟩:=zz I4;refine aex ?_;intro EW;have A0:=zc hl;clear hl;simp only[id];refine ame ?_;clear hK K;refine Pm ?_;intro K hK;refine(xj Ny _ oF (kz An 128 16) _ (by rw[JW,A2.o]) A0).mono ?_;rintro ai MF⟨rfl,sy⟩;refine aex ?_;intro EW;have uX:=zc (zI (kz An 128 16));have EM:=ha_ (both S6 (zeF k j 0 (block (kz An 128 16)))=jU k j b) h8.out;generalize block (kz An 128 16)=er at*;refine ame ?_;clear hK K;refine Pm ?_;intro K hK;refine(JS kp q p j 0 k er _ (MM.later (EW.old IZ)) hj ae uX).mono ?_;rintro ai w7⟨rfl,sy⟩;refine aex ?_;intro EW;have EB:=zc (yU k j 0 er);generalize zeF k j 0 er=ep at*;refine ame ?_;clear hK K;refine Pm ?_;intro K hK;refine(bB S6 ep _ EZ EB).mono ?_;rintro ai w8⟨rfl,sy⟩;refine aex ?_;intro EW;have IM:=zc (zK S6 ep);generalize both S6 ep=S7 at*;refine ame ?_;clear hK K;refine aeA ?_;intro K hK;refine EW.g1.zd4 rfl rfl rfl zd ga (by rw[zaa];exact IM) (zj _) (λw7 hb7 ho7=>hK _ _ ?_);clear hK K;have Eu:=zi EW.bel ho7 ae;refine aeS ?_;go_wp2;rw[Exit.zeZ];refine hb7.result rfl rfl rfl zd (by rw[zaa];exact IM) ⟨g7,?_⟩;exact ah7
structure Str where
 a:OA
 cap:Nat
 bs:La_
def Str.val(s:Str):Value:=.slice s.a s.bs.length s.cap
structure Str.In(w:World)(s:Str):Prop where
 le:s.bs.length<=s.cap
 lies:zr w s.a (s.bs.map B)
def Str.In.below{s:Str}(h:s.In w)(hb:Below w.heap.size w w'):s.In w':=⟨h.le,h.lies.below hb⟩
structure yI(w:World)(ao:OA)(ss:List Str):Prop where
 lies:zr w ao (ss.map Str.val)
 each:∀s∈ss,s.In w
def yI.below{ss:List Str}(h:yI w ao ss)(hb:Below w.heap.size w w'):yI w' ao ss:=⟨h.lies.below hb,λs hs=>(h.each s hs).below hb⟩
def rowOf(ss:List Str):List (La_):=ss.map (·.bs)
end
variable{W W' w0:World}
section
open Shelf
attribute [local irreducible] zA zG zH zE zR
attribute [local go_sem] Oper.semAt_some
abbrev Elt(w0:World):={ x:Nat×Str // x.1<=1000/\x.2.bs.length<=10000/\x.2.In w0 }
abbrev encE{w0:World}(x:Elt w0):Array Value:=#[.int .i64 (x.1.1:Int),x.1.2.val]
def lJ(n:Nat)(l Bs n₀ len cap:Nat)(ao:OA)(w0:World)(xs:List (Elt w0))(hlen:xs.length=len)(hlb:len<=500)(zkU:∀k x,xs[k]? = some x->x.1.1=3+k)(J Jx:List (Elt w0)->World->Prop)(hY:∀pre (x:Elt w0) W,J pre W->pre.length<len->YieldAt Fence.wide (n-1) pgm l (encE x) W λe W' =>
   (e=.returned (.bool true)/\J (pre++[x]) W'/\Below n₀ W W')\/(e=.returned (.bool false)/\Jx (pre++[x]) W'))(W:World)(hBs:W.cell? ⟨Bs,0,none⟩=some (.slice ao len cap))(hc:zr W ao (xs.map λx=>x.1.2.val))(hb:0<len->∀b off,ao=some ⟨b,off,none⟩->b<n₀)(h0:J [] W):CallsIn Fence.wide n pgm 179 #[.func (.yield l) #[] #[],.pointer (some ⟨Bs,0,none⟩)] W λe W'=>(∃v,e=.returned v) /\
   ((∃ys,ys=xs/\J ys W')\/(∃pre,True/\Jx pre W')):=by
 refine ajJ hlen hc hb ?_;intro A0 SW uX;clear hlen hc hb;refine callsIn_of_wp func179 rfl trivial ?_ rfl;simp only[ntmps179,zbT,zaj,zas,zcR,zcS,zcc,zcd,zcp,zck,zaB,zbq]
 gi_wp2
 gi_loopw [7] (λi wr=>∃k:Nat,k<=len/\i=.int .i64 k/\J (xs.take k) wr/\Below n₀ W wr) (λi _=>len-(intOf i).toNat)
 case atStart=>exact⟨0,Nat.zero_le _,rfl,h0,Below.refl _ _⟩
 case round =>
  obtain⟨k,aQ,rfl,SX,SY⟩:=hrel;by_cases aB:k<len
  ·obtain⟨x,aH⟩:∃x,xs[k]? = some x:=⟨xs[k]'(by rw[A0.o];exact aB),ab⟩
   obtain⟨b,off,rfl,SZ⟩:=SW k x.1.2.val (by rw[List.getElem?_map,aH];rfl);have T5:=(SY.cell (p:=⟨b,off+k,none⟩) (uX ae b off rfl)).trans SZ;have T6:(3:Int)+(k:Int)=(x.1.1:Int):=by rw[zkU k x aH];omega
   have EZ:=zc aH;obtain⟨T7,T8,T9,Ta,et,Em⟩:=hY (xs.take k) x wr SX (by rw[List.length_take,A0.o];omega);have Pq:x.1.1<=1000:=x.2.1;have Tb:=ha_ (xs.take (k+1)=xs.take k++[x]/\True) ⟨by rw[List.take_add_one,aH];rfl,trivial⟩;clear aH
   gi_wp2
   refine⟨λhh=>(by cases hh),Em.mono ?_⟩;rintro e Tc (⟨rfl,Iq,aQ⟩|⟨rfl,Td⟩)
   ·gi_wp2
    go_roundw;case rel=>exact⟨k+1,ae,ab,by rw[Tb.1];exact Iq,SY.trans aQ⟩
    case measure=>simp[intOf];omega
   ·gi_wp2
    refine ahH ?_;exact⟨⟨_,rfl⟩,.inr ⟨_,trivial,Td⟩⟩
  ·obtain rfl:k=len:=by omega
   rw[zai (by rw[A0.o];exact zab _)] at SX
   gi_wp2
   go_end0;exact⟨⟨_,rfl⟩,.inl ⟨_,rfl,SX⟩⟩
def bD(n:Nat)(Bs n₀ len cap:Nat)(ao:OA)(w0 w:World)(xs:List (Elt w0))(hlen:xs.length=len)(hlb:len<=500)(zkU:∀k x,xs[k]? = some x->x.1.1=3+k)(hBs:Bs<w.heap.size)(hc0:w.cell? ⟨Bs,0,none⟩=some (.slice ao len cap))(hc:zr w ao (xs.map λx=>x.1.2.val))(hb:0<len->∀b off,ao=some ⟨b,off,none⟩->b<n₀):SeqStopsK Fence.wide n pgm 179 #[.pointer (some ⟨Bs,0,none⟩)] (λx:Elt w0=>encE x) (Below n₀) (λys=>ys=xs) (λ_=>True) len w:=λl J Jx W hW _ _ hY h0 =>
 lJ n l Bs n₀ len cap ao w0 xs hlen hlb zkU J Jx hY W ((hW.cell (p:=⟨Bs,0,none⟩) hBs).trans hc0) (hc.below hW) hb h0
def n9(n:Nat)(ao:OA)(len cap:Nat)(w:World):CallsIn Fence.wide n pgm 161 #[.slice ao len cap] w λe w'=>e=.returned (.func (.func 179) #[] #[.pointer (some ⟨w.heap.size,0,none⟩)])/\w'=w.alloc (.cells #[.slice ao len cap] 93):=by
 refine callsIn_of_wp func161 rfl trivial ?_ rfl;simp only[ntmps161,zbT,zaj,zas,zcR,zcS,zcc,zcd,zcp,zck,zaB,zbq]
 gi_wp2
 go_ret;exact aeU
def QB(h:Below W.heap.size W W'):KeepsOthers W W':=⟨h.size,λk o hk _=>(h.block k (Array.getElem?_eq_some_iff.1 hk).1).trans hk⟩
def dB{b:Nat}{vs:Lb_}{ty:TypeId}(hb:Blk W b vs ty)(h:Only b W W'):KeepsOthers W W':=⟨by rw[h.size];exact zab _,λk o hk ho=>by
 by_cases e:k=b
 ·subst e;rw[show W.heap[k]? = _ from hb] at hk;cases hk;cases ho
 ·exact(h.block k e).trans hk⟩
def lK{β:Type}(b:Nat)(ty:TypeId)(f:β->Lb_):Own (λs W=>Blk W b (f s) ty):=λs X Y row hs hg hrow =>
 (hg.block b hs.lt (λe'=>by
  obtain⟨o,ho,hc⟩:=hrow b e'.symm;rw[show X.heap[b]? = _ from hs] at ho;cases ho;cases hc)).trans hs
def bE(w0:World):∀(ss:List Str)(j:Nat),(∀s∈ss,s.bs.length<=10000/\s.In w0)->j+ss.length<=1000->∃xs:List (Elt w0),xs.length=ss.length/\(∀k x,xs[k]? = some x->x.1.1=j+k)/\xs.map (λx=>x.1.2)=ss
 | [],_,_,_=>⟨[],rfl,λ_ _ h=>by simp at h,rfl⟩
 | s::r,j,h,hj=>by
  obtain⟨xs,h1,h2,h3⟩:=bE w0 r (j+1) (λt ht=>h t (List.mem_cons_of_mem _ ht)) (by simp at hj;omega);refine⟨⟨(j,s),by simp at hj;omega,(h s ab).1,(h s ab).2⟩::xs,by simp[h1],?_,by simp[h3]⟩;intro k x hx;cases k with
  | zero=>simp at hx;subst hx;rfl
  | succ k=>rw[List.getElem?_cons_succ] at hx;rw[h2 k x hx];omega
def Kd{w0:World}(k:zx)(pre:List (Elt w0)):La_:=pre.foldl (λs x=>both s (jU k x.1.1 x.1.2.bs)) (zg 16)
def fP(k:zx)(pre:List (Elt w0))(x:Elt w0):Kd k (pre++[x])=both (Kd k pre) (jU k x.1.1 x.1.2.bs):=by simp[Kd]
def Ya(k:zx)(pre:List (Elt w0)):(Kd k pre).length=16:=by
 rcases List.eq_nil_or_concat pre with rfl|⟨p,x,rfl⟩
 ·exact ze 16
 ·rw[List.concat_eq_append,fP];exact zK _ _
def U7(k:zx):∀(xs:List (Elt w0))(j:Nat)(s:La_),(∀i x,xs[i]? = some x->x.1.1=j+i)->xs.foldl (λs x=>both s (jU k x.1.1 x.1.2.bs)) s=W6 k j s (xs.map λx=>x.1.2.bs)
 | [],_,_,_=>rfl
 | x::r,j,s,h=>by
  have h0:=h 0 x rfl;simp only[List.foldl_cons,List.map_cons,W6];rw[U7 k r (j+1) _ (λi y hy=>by rw[h (i+1) y (by simpa using hy)];omega),h0];rfl
def WS(kp q p:Nat)(k:zx)(ao:OA)(n cap:Nat)(ss:List Str)(w:World)(hk:qu w kp q p k)(hn:ss.length=n)(hn1:n<=500)(hs:yI w ao ss)(hlen:∀s∈ss,s.bs.length<=10000):C_b 134 #[.pointer (some ⟨kp,0,none⟩),.slice ao n cap] w (.agg ((q8 k (rowOf ss)).map B).toArray):=by
 refine ajJ hk hn hs ?_;intro MM Nl EW;have A2:=zc hlen;clear hk hn hs hlen;refine(callsIn_wide (n:=6)).1 ?_;refine callsIn_of_wp_marks func134 rfl trivial ?_ rfl;simp only[ntmps134,zbT,zaj,zas,zcR,zcS,zcc,zcd,zcp,zck,zaB,zbq];have P7:=zc (St.start w);refine wpIn_seq (wpIn_wide.2 ?_);go_wp2_with (refine zh 154 _ [.pointer (some ⟨kp,0,none⟩)] _ rfl rfl rfl rfl ?_);refine anw P7 ?_;intro A4 aF sy P7 aB;go_wp2_with (refine aqB ?_);refine anw P7 ?_;intro Ev aF sy P7 aB;go_wp2;refine wpIn_seq (wpIn_wide.2 ?_);go_wp2_with (refine aqB ?_);refine anw P7 ?_;intro IX aF sy P7 aB;go_wp2;refine wpIn_seq (wpIn_wide.2 ?_);go_wp2_with fail;refine(callsIn_wide.1 (n9 1 ao n cap _)).mono ?_;rintro ai MF⟨rfl,Am⟩;have P7:=ha_ (St w w.heap.size MF _) (by rw[Am];exact P7.push (Blk.new IX [.slice ao n cap] 93) (zu IX _));have MJ:IX.heap.size<MF.heap.size:=by rw[Am];simp
 clear Am;generalize M1:w.heap.size=MN at*;generalize A4.heap.size=Nh at*;generalize Ev.heap.size=R1 at*;generalize IX.heap.size=R2 at*;have IZ:=zc M1;clear M1;go_wp2;obtain⟨Te,aH,T6,Tf⟩:=bE w ss 3 (λs hs=>⟨A2 s hs,EW.each s hs⟩) k4;have Tg:=ha_ (Kd k Te=q8 k (rowOf ss)/\True) ⟨by
  unfold Kd;rw[U7 k Te 3 _ T6];unfold q8 rowOf;rw[<-Tf,zcH];rfl,trivial⟩
 have eS:zr MF ao (Te.map λx=>x.1.2.val):=by
  have:=EW.lies.below (show Below w.heap.size w MF by rw[IZ.o];exact P7.bel);rw[<-Tf,zcH] at this;exact this
 have Ik:0<n->∀b off,ao=some ⟨b,off,none⟩->b<MN:=by
  intro ag b off Th;obtain⟨ax,ay,ai,aB,_⟩:=EW.lies.at (by intro ag;have:=congrArg List.length ag;simp[Nl.o] at this;omega);rw[Th] at ai;cases ai;rw[<-IZ.o];exact aB
 have P7:=P7.o;refine(wpIn_wide (n:=5)).1 ?_;refine wpIn_rangeFunc_ownF rfl ae (gf:=179) (lb:=#[.pointer (some ⟨R2,0,none⟩)]) rfl trivial (enters_of func179 e0 rfl)
  (bD 4 R2 MN n cap ao w MF Te (aH.trans Nl) hn1 T6 ae (P7.g0.cell 0 _ rfl) eS Ik) belowK_t (belowK_b ae) (Below.refl _ _) (λ_=>rfl)
  (λpre W=>(Blk W R1 ((Kd k pre).map B) 144/\Blk W Nh ((zg 16).map B) 144/\Blk W MN [.pointer (some ⟨kp,0,none⟩)] 154)/\Below MN w W)
  (λ_ _ _=>False)
  (OwnFrom.and (Own.from (λs A B' row hs hg hr=>⟨lK R1 _ (λpre=>(Kd k pre).map B) s A B' row hs.1 hg hr,lK Nh _ (λ_=>(zg 16).map B) s A B' row hs.2.1 hg hr,lK MN _ (λ_=>[.pointer (some ⟨kp,0,none⟩)]) s A B' row hs.2.2 hg hr⟩) _) (ownFrom_below (by rw[IZ.o];exact zab _) ae))
  (λ_ _ _ _ _ hs _ _=>hs)
  ⟨⟨P7.get 1 rfl,P7.get 2 rfl,P7.get 3 rfl⟩,P7.bel⟩
  (λx=>{ tmps:=#[.pointer (some ⟨kp,0,none⟩),.slice ao n cap,.pointer (some ⟨MN,0,none⟩),undef,.pointer (some ⟨Nh,0,none⟩),.pointer (some ⟨R1,0,none⟩),.int .i64 (x.1.1:Int),x.1.2.val,.slice ao n cap,.func (.func 179) #[] #[.pointer (some ⟨R2,0,none⟩)],.int .i64 (x.1.1:Int),x.1.2.val,undef,undef,undef,undef,undef,undef,undef],defers:=[] }) ?assign ?body ?done ?stop
 case assign =>
  intro Mv x W K hK
  gi_wp2
  exact hK
 case body =>
  rintro Mv pre x W⟨⟨aF,Ew,Ex⟩,aG⟩ _;refine ajJ aF Ew Ex ?_;intro uX EB IM;have OE:=zc aG;have Nw:=zc (Ya k pre);have Pb:=l_ (Kd k pre) 16 (Ya k pre);have Tb:=ha_ (Kd k (pre++[x])=both (Kd k pre) (jU k x.1.1 x.1.2.bs)/\True) ⟨fP k pre x,trivial⟩;have Ti:=ha_ (x.1.2.In W) (x.2.2.2.below (by rw[IZ.o];exact aG));have Tj:=zc (MM.later (show Below w.heap.size w W by rw[IZ.o];exact aG));have Tk:=x.2.1;have Tl:=x.2.2.1;clear aG;have Tn:MN<=W.drew.heap.size:=zbQ IM.lt;have az:=λ(y:zL W.drew)=>(IM.drew.below y.later IM.drew.lt).cell 0 _ rfl;refine wpIn_block ?_;refine dA [0,1,2,3,4,5,6] e0 e0 e0 ?_;rintro A4 rfl;refine zB uX.drew.range uX.drew.lt zd Pb rfl rfl rfl rfl (λK hK=>?_);refine ali ?_;clear hK K;refine mqR ?_;clear az;refine Pm ?_;intro K hK;refine(FC kp q p x.1.1 k x.1.2.a x.1.2.bs.length x.1.2.cap x.1.2.bs _ Tj.drew Tk rfl Ti.le Tl (Ti.lies.below (Below.refl _ _).drew)).mono ?_;rintro ai A4⟨rfl,ED⟩;have SV:=zc ((KeepsOthers.drew W).trans (QB ED));have uX:=zc (uX.drew.below ED uX.lt);have EB:=zc (EB.drew.below ED EB.lt);have IM:=zc (IM.drew.below ED IM.lt);have To:=zc ((Below.refl MN W).drew.trans (ED.mono Tn));have PH:=zc (gL k x.1.1 x.1.2.bs);refine amM ?_;clear hK K ED;refine Pm ?_;intro K hK;refine(bB (Kd k pre) (jU k x.1.1 x.1.2.bs) _ Nw PH).mono ?_;rintro ai A4⟨rfl,Eu⟩;rw[<-Tb.1];have SV:=zc (SV.trans (QB Eu));have To:=zc (To.trans (Eu.mono (zbQ IM.lt)));have uX:=zc (uX.below Eu uX.lt);have EB:=zc (EB.below Eu EB.lt);have IM:=zc (IM.below Eu IM.lt);have Om:=l_ (Kd k (pre++[x])) 16 (Ya k _);refine alv ?_;clear hK K Eu;refine aeA ?_;intro K hK;refine uX.zd4 rfl rfl rfl zd Pb Om (zj _) (λw8 hb8 ho8=>hK _ _ ?_);clear hK K;have SV:=zc (SV.trans (dB uX ho8));have To:=zc (zi To ho8 ae);have EB:=zc (EB.only ho8 ae);have IM:=zc (IM.only ho8 ae);refine aeS ?_;exact⟨SV,To,⟨hb8,EB,IM⟩,OE.trans To⟩
 case done =>
  rintro Ek Tp W E9 rfl⟨⟨aF,Ew,Ex⟩,aG⟩ hK;refine ajJ aF Ew aG ?_;intro uX EB OE;have Pb:=l_ (Kd k Tp) 16 (Ya k Tp);clear aG
  gi_wp2_with (refine VE _ _ _ ?_)
  refine uX.zdS rfl rfl rfl zd Pb ?_;refine EB.zdP rfl rfl rfl rfl zd ga Pb (zj _) ?_;intro w8 hb8 ho8;have Tq:=(ho8.block Ek ae).trans hK;refine dz ?_;go_simp
  gi_wp2
  refine⟨ab,.inl ⟨_,_,rfl,run_takeDeferred Tq,?_⟩⟩;have Tr:Blk (w8.putObj Ek (.deferred none)) Nh ((Kd k Tp).map B) 144:=(World.putObj_heap_other ae).trans hb8;obtain⟨aN,aw,ah,aO⟩:=zd.open;refine⟨.agg ((Kd k Tp).map B).toArray,results_cell_row rfl _ _ _ _ _ _ _ rfl Tr aw cc (by rw[aO];simp[Pb.o]),by rw[Tg.1],?_⟩;rw[IZ.o];exact(zi OE ho8 ae).trans (belowK_b (w:=MF) ae _ Ek _ _ ae Tq rfl rfl)
 case stop =>
  rintro Ek iy pre W _ _ ag _;exact ag.elim


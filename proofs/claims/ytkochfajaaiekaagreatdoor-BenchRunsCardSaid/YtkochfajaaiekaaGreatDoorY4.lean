/- Laws. -/
import Derived.Test.YtkochfajaaiekaaGreatDoorY3
set_option linter.all false
set_option maxHeartbeats 16000000
set_option maxRecDepth 100000
open List renaming getElem?_drop->zbw,range->zax,take_add_one->zbi
open Nat renaming add_comm->zb5,add_mul_div_right->zcY,mul_le_mul_right->za0,pow_add->za7,testBit_div_two_pow->zb3,testBit_mod_two_pow->zb2,testBit_xor->zcD,two_pow_pos->za2
open UInt32 renaming toNat_ofNat_of_lt'->zaA
open UInt64 renaming toNat_ofNat_of_lt'->zaR
open UInt8 renaming ofNat->zaq,ofNat_toNat->zaZ,toNat_inj->zbp,toNat_xor->zdl
namespace Go.Proofs.YtkochfajaaiekaaGreatDoor
open Go.Proofs.Tryz
variable{j i c:Nat}{f:Nat->UInt8->UInt32}{b:La_}{ks:List (La_)}
def Vn(f:Nat->UInt8):Nat->Nat
 | 0=>0
 | k+1=>Vn f k+(f k).toNat*2^(8*k)
def WM(f:Nat->UInt8):∀k,Vn f k<2^(8*k)
 | 0=>by simp[Vn]
 | k+1=>by
  have h1:=WM f k;have h2:=(f k).toNat_lt;unfold Vn;rw[show 8*(k+1)=8*k+8 by omega,za7];have:(f k).toNat*2^(8*k)<=255*2^(8*k):=za0 _ ae;omega
def ziA{a x n:Nat}(h:a<2^n):a|||x*2^n=a+x*2^n:=by have:=Nat.shiftLeft_add_eq_or_of_lt h x;rw[Nat.shiftLeft_eq] at this;rw[Nat.or_comm,<-this,zb5]
def KR(f:Nat->UInt8):∀k,k<=8->(X6 f k).toNat=Vn f k
 | 0,_=>rfl
 | k+1,hk=>by
  have ih:=KR f k ae;have h1:=WM f k;have h2:=(f k).toNat_lt;unfold X6 Vn;show(X6 f k|||xN (KH (f k)) (8*k)).toNat=_;rw[UInt64.toNat_or,ih];have e1:(KH (f k)).toNat=(f k).toNat:=by unfold KH;exact zaR (by show _<18446744073709551616;omega)
  have ag:(f k).toNat*2^(8*k)<2^64:=by
   have aM:(f k).toNat*2^(8*k)<=255*2^(8*k):=za0 _ ae;have aM:(2:Nat)^(8*k)<=2^56:=Nat.pow_le_pow_right ae ae;have aM:(255:Nat)*2^56<2^64:=bd;omega
  have ai:(xN (KH (f k)) (8*k)).toNat=(f k).toNat*2^(8*k):=by
   unfold xN;rw[e1];exact zaR ag
  rw[ai,ziA h1]
def Vo(f:Nat->UInt8)(j:Nat):∀k,j<k->Vn f k/2^(8*j)%256=(f j).toNat
 | 0,h=>by omega
 | k+1,h=>by
  unfold Vn;have h2:=(f j).toNat_lt;by_cases e:j=k
  ·subst e;rw[zcY _ _ (za2 _),Nat.div_eq_of_lt (WM f j),Nat.zero_add];exact Nat.mod_eq_of_lt h2
  ·have ih:=Vo f j k ae;obtain⟨d,hd⟩:∃d,k=j+1+d:=⟨k-(j+1),ae⟩
   have e1:(f k).toNat*2^(8*k)=((f k).toNat*2^(8*d)*256)*2^(8*j):=by
    rw[show(2:Nat)^(8*k)=2^(8*d)*256*2^(8*j) by rw[hd,show 8*(j+1+d)=8*d+8+8*j by omega,za7,za7]];simp only[Nat.mul_assoc]
   rw[e1,zcY _ _ (za2 _),Nat.add_mul_mod_self_right,ih]
def gT(x:UInt32):(KG x).toNat=x.toNat%256:=by unfold KG;exact UInt8.toNat_ofNat'
def ng(x:UInt32)(n:Nat):(kU x n).toNat=x.toNat/2^n:=by unfold kU;exact zaA (Nat.lt_of_le_of_lt (Nat.div_le_self _ _) x.toNat_lt)
def vg(n:UInt32)(j:Nat):UInt8:=KG (kU n (8*j))
def QU(n:UInt32)(j:Nat):(vg n j).toNat=n.toNat/2^(8*j)%256:=by unfold vg;rw[gT,ng]
def V5(n:UInt32)(h:j<4):at8 (zeb n) j=vg n j:=zeg (by simp[zeb,vg,h])
def BN(b:La_)(at':Nat):(xv b at').toNat=Vn (λk=>at8 b (at'+k)) 4:=by unfold xv xy;rw[KR _ _ ae];exact zaA (WM _ 4)
def ta(b:La_)(at':Nat)(h:j<4):vg (xv b at') j=at8 b (at'+j):=by apply zbp.1;rw[QU,BN,Vo _ j 4 h]
def jW(a b:UInt32)(j:Nat):vg (xD a b) j=yj (vg a j) (vg b j):=by apply zbp.1;show _=(vg a j^^^vg b j).toNat;rw[zdl,QU,QU,QU];show(a^^^b).toNat/_%256=_;rw[UInt32.toNat_xor];apply Nat.eq_of_testBit_eq;intro aS;rw[zcD,show(256:Nat)=2^8 from rfl,zb2,zb2,zb2,zb3,zb3,zb3,zcD];cases decide (aS<8)<;>simp
def uq(a b:UInt32):xD a b=xD b a:=UInt32.xor_comm a b
def jX(a b c:UInt32):xD (xD a b) c=xD a (xD b c):=UInt32.xor_assoc a b c
def td(a b c d:UInt32):xD (xD a b) (xD c d)=xD (xD a c) (xD b d):=by rw[jX,<-jX b c d,uq b c,jX c b d,<-jX]
instance:Std.Associative xD:=⟨jX⟩
instance:Std.Commutative xD:=⟨uq⟩
def ur(a:UInt32):xD a a=0:=UInt32.xor_self
def uu(a:UInt32):xD a 0=a:=UInt32.xor_zero
def ZL(a:UInt32):xD 0 a=a:=UInt32.zero_xor
def Kp(e:Nat->UInt32)(x:Nat):Nat->UInt32
 | 0=>0
 | k+1=>xD (Kp e x k) (if x.testBit k then e k else 0)
def fv(e:Nat->UInt32)(x y:Nat):∀k,Kp e (x^^^y) k=xD (Kp e x k) (Kp e y k)
 | 0=>(ur 0).symm
 | k+1=>by
  unfold Kp;rw[fv e x y k,td,zcD];congr 1;cases x.testBit k<;>cases y.testBit k<;>simp[ur,uu,ZL]
def UU{f:UInt8->UInt32}(h:∀n,n<256->f (zaq n)=Kp (λi=>f (zaq (2^i))) n 8)(a b:UInt8):f (yj a b)=xD (f a) (f b):=by
 have ai:∀x:UInt8,f x=Kp (λi=>f (zaq (2^i))) x.toNat 8:=λx=>by
  have:=h x.toNat x.toNat_lt
  rwa [zaZ] at this
 rw[ai (yj a b),ai a,ai b];show Kp _ (a^^^b).toNat 8=_;rw[zdl,fv]
def Vp(r:Nat)(y:UInt8):UInt32:=KJ a0q r y
def Jv(r:Nat)(y:UInt8):UInt32:=KJ a0r r y
def D0(r:Nat)(hr:r<4)(a b:UInt8):Vp r (yj a b)=xD (Vp r a) (Vp r b) :=
 UU ((by decide +kernel:∀r,r<4->∀n,n<256->Vp r (zaq n)=Kp (λi=>Vp r (zaq (2^i))) n 8) r hr) a b
def D1(r:Nat)(hr:r<4)(a b:UInt8):Jv r (yj a b)=xD (Jv r a) (Jv r b) :=
 UU ((by decide +kernel:∀r,r<4->∀n,n<256->Jv r (zaq n)=Kp (λi=>Jv r (zaq (2^i))) n 8) r hr) a b
def zh4(x:UInt8):UInt8:=at8 a0s x.toNat
def uw(x:UInt8):UInt8:=at8 a0s (256+x.toNat)
def BO(x:UInt8):uw (zh4 x)=x:=sB (p:=λx=>uw (zh4 x)=x) ar x
def BP(x:UInt8):zh4 (uw x)=x:=sB (p:=λx=>zh4 (uw x)=x) ar x
def Jw(h:i<2048):xk (entries a0s) i=entry a0s i:=by unfold xk entries;simp[List.getD,h]
def ziB(r:Nat)(hr:r<4)(x:UInt8):a0t r x=Vp r (zh4 x):=by have aH:=x.toNat_lt;unfold a0t;rw[Jw ae];unfold entry;rw[if_pos ae,show(256*r+x.toNat)/256=r by omega,show(256*r+x.toNat)%256=x.toNat by omega];rfl
def D2(r:Nat)(hr:r<4)(x:UInt8):zg2 r x=Jv r x:=by have aH:=x.toNat_lt;unfold zg2;rw[Jw ae];unfold entry;rw[if_neg ae,show(1024+256*r+x.toNat-1024)/256=r by omega,show(1024+256*r+x.toNat)%256=x.toNat by omega,zaZ];rfl
def a0e(f:Nat->UInt8->UInt32)(s:La_)(c:Nat):Nat->UInt32
 | 0=>0
 | r+1=>xD (a0e f s c r) (f r (at8 s (r+4*c)))
def Vq(f:Nat->UInt8->UInt32)(w:UInt32):UInt32:=xD (xD (xD (xD 0 (f 0 (vg w 0))) (f 1 (vg w 1))) (f 2 (vg w 2))) (f 3 (vg w 3))
def Add(f:Nat->UInt8->UInt32):Prop:=∀r,r<4->∀a b,f r (yj a b)=xD (f r a) (f r b)
def addM:Add Vp:=λr hr a b=>D0 r hr a b
def addA:Add Jv:=λr hr a b=>D1 r hr a b
def Jy(h:Add f)(a b:UInt32):Vq f (xD a b)=xD (Vq f a) (Vq f b):=by unfold Vq;rw[jW,jW,jW,jW,h 0 ae,h 1 ae,h 2 ae,h 3 ae];rw[ZL,ZL,ZL];ac_rfl
def place(r:Nat)(y:UInt8):UInt32:=qm (xu y) (8*r)
def Hz(r:Nat)(hr:r<4)(y:UInt8):Vq Jv (Vp r y)=place r y:=by
 have:=(by decide +kernel:∀r,r<4->∀n,n<256->Vq Jv (Vp r (zaq n))=place r (zaq n)) r hr y.toNat y.toNat_lt
 rwa [zaZ] at this
def H5(r:Nat)(hr:r<4)(y:UInt8):Vq Vp (Jv r y)=place r y:=by
 have:=(by decide +kernel:∀r,r<4->∀n,n<256->Vq Vp (Jv r (zaq n))=place r (zaq n)) r hr y.toNat y.toNat_lt
 rwa [zaZ] at this
def Xo(r:Nat)(hr:r<4)(j:Nat)(hj:j<4)(y:UInt8):vg (place r y) j=if j=r then y else 0:=by
 have:=(by decide +kernel:∀r,r<4->∀j,j<4->∀n,n<256->vg (place r (zaq n)) j=if j=r then(zaq n) else 0) r hr j hj y.toNat y.toNat_lt
 rwa [zaZ] at this
def vh(f:Nat->UInt8->UInt32)(s:La_):La_:=(zax 16).map λi=>vg (a0e f s (i/4) 4) (i%4)
def vj(f:Nat->UInt8->UInt32)(s:La_):(vh f s).length=16:=by simp[vh]
def Z5(f:Nat->UInt8->UInt32)(s:La_)(h:i<16):at8 (vh f s) i=vg (a0e f s (i/4) 4) (i%4):=zeg (by simp[vh,h])
def te(f g:Nat->UInt8->UInt32)(s:La_)(hc:c<4):a0e f (vh g s) c 4=Vq f (a0e g s c 4):=by
 have ai:∀r,r<4->at8 (vh g s) (r+4*c)=vg (a0e g s c 4) r:=λr hr=>by
  rw[Z5 _ _ ae,show(r+4*c)/4=c by omega,show(r+4*c)%4=r by omega]
 simp only[a0e,ai 0 ae,ai 1 ae,ai 2 ae,ai 3 ae,Vq]
def fw{g:Nat->UInt8->UInt32}(hf:Add f)(hz:Vq f 0=0)(h:∀r,r<4->∀y,Vq f (g r y)=place r y){s:La_}(hs:s.length=16):vh f (vh g s)=s:=by
 refine XS (vj _ _) hs λi hi=>?_;have az:i/4<4:=ae;rw[Z5 _ _ hi,te _ _ _ az];have ai:Vq f (a0e g s (i/4) 4)=xD (xD (xD (place 0 (at8 s (0+4*(i/4)))) (place 1 (at8 s (1+4*(i/4))))) (place 2 (at8 s (2+4*(i/4))))) (place 3 (at8 s (3+4*(i/4)))):=by
  simp only[a0e];rw[Jy hf,Jy hf,Jy hf,Jy hf,hz,ZL,h 0 ae,h 1 ae,h 2 ae,h 3 ae]
 rw[ai,jW,jW,jW,Xo 0 ae _ ae,Xo 1 ae _ ae,Xo 2 ae _ ae,Xo 3 ae _ ae];obtain ag|ag|ag|ag:i%4=0\/i%4=1\/i%4=2\/i%4=3:=ae
 all_goals rw[ag];simp[BE,zeY];congr 1;omega
def gU(b:La_):La_:=(zax 16).map (Xj b)
def Ql(b:La_):(gU b).length=16:=by simp[gU]
def ux(b:La_)(h:i<16):at8 (gU b) i=zh4 (at8 b (yu (i%4) (i/4))):=zeg (by simp[gU,h];rfl)
def V6(b:La_)(h:i<16):at8 (qY b) i=uw (at8 b (i%4+4*((i/4+4-i%4)%4))):=zeg (by simp[qY,h];rfl)
def Jz(hb:b.length=16):qY (gU b)=b:=by refine XS (q7 _) hb λi hi=>?_;rw[V6 _ hi,ux _ ae,BO];congr 1;unfold yu;omega
def JA(hb:b.length=16):gU (qY b)=b:=by refine XS (Ql _) hb λi hi=>?_;rw[ux _ hi,V6 _ dk,BP];congr 1;unfold yu;omega
def uy(b key:La_)(hc:c<4):∀r,r<=4->a02 b key c r=xD (xv key (4*c)) (a0e Vp (gU b) c r)
 | 0,_=>(uu _).symm
 | r+1,h=>by
  unfold a02 a0e;rw[uy b key hc r ae,ziB r ae,ux _ ae,show(r+4*c)%4=r by omega,show(r+4*c)/4=c by omega,jX]
def ni(b key:La_):round b key=both (vh Vp (gU b)) key:=by refine XS (Zc _ _) (zK _ _) λi hi=>?_;have ai:at8 (round b key) i=Xi b key i:=zeg (by simp[round,hi]);rw[ai,jx _ _ _ hi,Z5 _ _ hi];unfold Xi;rw[V5 _ ae,uy b key ae 4 ae,jW,ta _ _ ae,ff];congr 2;omega
def JB(b:La_)(c:Nat):∀r,r<=4->q6 b c r=a0e Jv b c r
 | 0,_=>rfl
 | r+1,h=>by
  unfold q6 a0e;rw[JB b c r ae,D2 r ae]
def uA(b key:La_):Zb b key=qY (vh Jv (both b key)):=by
 have ai:(zax 16).map (qH (both b key))=vh Jv (both b key):=by
  refine XS (by rw[List.length_map,List.length_range]) (vj _ _) λi hi=>?_;have ai:at8 ((zax 16).map (qH (both b key))) i=qH (both b key) i:=zeg (by rw[List.getElem?_map,List.getElem?_range hi];rfl);rw[ai,Z5 _ _ hi];unfold qH;rw[V5 _ ae,JB _ _ 4 ae]
 show qY ((zax 16).map (qH (both b key)))=_;rw[ai]
def dh(hb:b.length=16)(key:La_):Zb (round b key) key=b:=by rw[uA,ni,yH (vj _ _),fw addA ar Hz (Ql _),Jz hb]
def dm(hb:b.length=16)(key:La_):round (Zb b key) key=b:=by rw[ni,uA,JA (vj _ _),fw addM ar H5 (zK _ _),yH hb]
def a0f(b key:La_):last b key=both (gU b) key:=rfl
def nj(hb:b.length=16)(key:La_):wO (last b key) key=b:=by unfold wO;rw[a0f,yH (Ql _),Jz hb]
def nk(hb:b.length=16)(key:La_):last (wO b key) key=b:=by rw[a0f];unfold wO;rw[JA (zK _ _),yH hb]
def V7(b:La_)(ks:List (La_))(k:La_):rounds b (ks++[k])=round (rounds b ks) k:=by simp[rounds]
def uB(ks:List (La_)):∀(m:Nat)(b:La_),b.length=16->m+1<=ks.length->YQ ks (m+1) (rounds b ((ks.drop 1).take m))=b
 | 0,b,hb,_=>by simp[rounds,YQ]
 | m+1,b,hb,h=>by
  have e:(ks.drop 1).take (m+1)=(ks.drop 1).take m++[key ks (m+1)]:=by
   rw[zbi,zbw,zb5 1 m,jI ae];rfl
  rw[e,V7,KK _ _ _ ae,show m+1+1-1=m+1 by omega,dh (kL _ _ hb),uB ks m b hb ae]
def uD(ks:List (La_)):∀(m:Nat)(b:La_),b.length=16->m+1<=ks.length->rounds (YQ ks (m+1) b) ((ks.drop 1).take m)=b
 | 0,b,hb,_=>by simp[rounds,YQ]
 | m+1,b,hb,h=>by
  have e:(ks.drop 1).take (m+1)=(ks.drop 1).take m++[key ks (m+1)]:=by
   rw[zbi,zbw,zb5 1 m,jI ae];rfl
  rw[e,V7,KK _ _ _ ae,show m+1+1-1=m+1 by omega,uD ks m _ (j5 _ _) ae,dm hb]
def JC(ks:List (La_)):∀(m:Nat)(b:La_),b.length=16->(YQ ks m b).length=16
 | 0,b,h=>h
 | 1,b,h=>h
 | m+2,b,h=>by
  unfold YQ;exact JC ks (m+1) _ (j5 _ _)
def a0g(hk:2<=ks.length)(hb:b.length=16):dec ks (enc ks b)=b:=by unfold dec enc;rw[nj (kL _ _ (zK _ _))];have:=uB ks (ks.length-2) (both b (key ks 0)) (zK _ _) ae;rw[show ks.length-2+1=ks.length-1 by omega] at this;rw[this,yH hb]
def a0h(hk:2<=ks.length)(hb:b.length=16):enc ks (dec ks b)=b:=by unfold dec enc;rw[yH (JC _ _ _ (vZ _ _))];have:=uD ks (ks.length-2) (wO b (key ks (ks.length-1))) (vZ _ _) ae;rw[show ks.length-2+1=ks.length-1 by omega] at this;rw[this,nk hb]


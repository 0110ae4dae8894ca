/- Laws. -/
import Derived.Test.YtkochfajaaiekaaGreatDoorY4
import Derived.Test.YtkochfajaaiekaaGreatDoorY7
set_option linter.all false
set_option maxHeartbeats 16000000
set_option maxRecDepth 100000
open Array renaming length_toList->zbP
open List renaming append_assoc->zal,append_nil->za5,cons_append->zbq,drop_append_of_le_length->zba,drop_drop->zcf,drop_eq_nil_of_le->zak,eq_nil_of_length_eq_zero->zaI,ext_getElem?->zaK,flatten_cons->za4,getD->zbx,getElem?_append_left->zbC,getElem?_append_right->za6,getElem?_drop->zbw,getElem?_eq_none->zaf,getElem?_map->zay,getElem?_range->zbj,getElem?_take->zcv,length->zcs,length_append->zac,length_cons->zaj,length_drop->zan,length_map->zaa,length_nil->zas,length_set->zav,length_take->zam,map_cons->zca,mem_append_left->zaP,mem_append_right->zaE,mem_cons_of_mem->zaN,mem_of_getElem?->zad,nil_append->zaB,range->zax,take_append_drop->zaS,take_append_of_le_length->zaL,take_of_length_le->zai
open Nat renaming add_mul->zbc,add_sub_cancel->zcE,add_zero->zci,div_add_mod->zcX,div_le_self->zbB,le_refl->zab,le_succ->zaV,lt_of_le_of_lt->zbk,lt_or_ge->zbl,lt_trans->zdx,mul_comm->zcu,mul_le_mul_right->za0,mul_succ->zdy,one_mul->zbZ,two_pow_add_eq_or_of_lt->zcC,zero_add->zbt
open Option renaming map_some->zbM,some.inj->zaW
open UInt32 renaming toNat_ofNat_of_lt'->zaA
open UInt64 renaming ofNat->zae,toNat_inj->zaU,toNat_ofNat'->zbm
open UInt8 renaming ofNat->zaq,toNat_inj->zbp,toNat_ofNat'->zbh,toNat_ofNat_of_lt'->zaO
namespace Go.Proofs.YtkochfajaaiekaaGreatDoor
open Go.Proofs.Tryz
open Go.Proofs.Tryz renaming prog->pgm
variable{i j:Nat}{name pass secret st:La_}{w:World}{ao:OA}{P:Program}{back:Bool}
def sgn(i:Nat):UInt8:=if i<26 then zaq (65+i) else if i<52 then zaq (71+i) else if i<62 then zaq (i-4) else if i=62 then 45 else 95
def jg(c:UInt8):Option UInt8 :=
 if 65<=c.toNat/\c.toNat<=90 then some (ZA c 65) else if 97<=c.toNat/\c.toNat<=122 then some (Vc (ZA c 97) 26) else if 48<=c.toNat/\c.toNat<=57 then some (Vc (ZA c 48) 52) else if c.toNat=45 then some 62 else if c.toNat=95 then some 63 else none
def Za:∀i,i<64->jg (sgn i)=some (zaq i):=ar
def kV:La_->La_
 | []=>[]
 | [a]=>[sgn (a.toNat/4),sgn (a.toNat%4*16)]
 | [a,b]=>[sgn (a.toNat/4),sgn (a.toNat%4*16+b.toNat/16),sgn (b.toNat%16*4)]
 | a::b::c::r=>sgn (a.toNat/4)::sgn (a.toNat%4*16+b.toNat/16)::sgn (b.toNat%16*4+c.toNat/64)::sgn (c.toNat%64)::kV r
def by0(x y:UInt8):UInt8:=or8 (kT x 2) (zeR y 4)
def by1(y z:UInt8):UInt8:=or8 (kT y 4) (zeR z 2)
def by2(z u:UInt8):UInt8:=or8 (kT z 6) u
def qX:La_->Option (La_)
 | []=>some []
 | [_]=>none
 | [a,b]=>match jg a,jg b with
  | some x,some y=>if kT y 4=0 then some [by0 x y] else none
  | _,_=>none
 | [a,b,c]=>match jg a,jg b,jg c with
  | some x,some y,some z=>if kT z 6=0 then some [by0 x y,by1 y z] else none
  | _,_,_=>none
 | a::b::c::d::r=>match jg a,jg b,jg c,jg d with
  | some x,some y,some z,some u=>(qX r).map λo=>by0 x y::by1 y z::by2 z u::o
  | _,_,_,_=>none
def gF(u v:UInt8)(k:Nat)(h:u.toNat%2^k=0)(hv:v.toNat<2^k):(or8 u v).toNat=u.toNat+v.toNat:=by exact ahF
def Xe(a:UInt8)(n:Nat):(kT a n).toNat=a.toNat*2^n%256:=by unfold kT;rw[zbh]
def WJ(a:UInt8)(n:Nat):(zeR a n).toNat=a.toNat/2^n:=by unfold zeR;have:=a.toNat_lt;rw[zaO (zbk (zbB _ _) this)]
def Hp(x y:UInt8)(hy:y.toNat<64):(by0 x y).toNat=x.toNat*4%256+y.toNat/16:=by unfold by0;rw[gF _ _ 2 (by rw[Xe];omega) (by rw[WJ];omega),Xe,WJ]
def Hq(y z:UInt8)(hz:z.toNat<64):(by1 y z).toNat=y.toNat*16%256+z.toNat/4:=by unfold by1;rw[gF _ _ 4 (by rw[Xe];omega) (by rw[WJ];omega),Xe,WJ]
def Hr(z u:UInt8)(hu:u.toNat<64):(by2 z u).toNat=z.toNat*64%256+u.toNat:=by unfold by2;rw[gF _ _ 6 (by rw[Xe];omega) ae,Xe]
def cZ(i:Nat)(h:i<64):(zaq i).toNat=i:=zaO (zdx h bd)
def sI(a:UInt8)(r:Nat)(hr:r<16):by0 (zaq (a.toNat/4)) (zaq (a.toNat%4*16+r))=a:=by have:=a.toNat_lt;apply zbp.1;rw[Hp _ _ bf,cZ _ ae,cZ _ ae];omega
def DJ(q:Nat)(b:UInt8)(r:Nat)(hr:r<4)(hq:q<4):by1 (zaq (q*16+b.toNat/16)) (zaq (b.toNat%16*4+r))=b:=by have:=b.toNat_lt;apply zbp.1;rw[Hq _ _ bf,cZ _ ae,cZ _ ae];omega
def zio(q:Nat)(c:UInt8)(hq:q<16):by2 (zaq (q*4+c.toNat/64)) (zaq (c.toNat%64))=c:=by have:=c.toNat_lt;apply zbp.1;rw[Hr _ _ bf,cZ _ ae,cZ _ ae];omega
def mO(i k:Nat)(h:i<64)(h2:i*2^k%256=0):kT (zaq i) k=0:=by apply zbp.1;rw[Xe,cZ _ h,h2];rfl
def WK:∀b,qX (kV b)=some b
 | []=>rfl
 | [a]=>by
  have:=a.toNat_lt;unfold kV qX;rw[Za _ ae,Za _ ae];simp only;have e:=sI a 0 ae;rw[zci] at e;rw[if_pos (mO _ _ ae ae),e]
 | [a,b]=>by
  have:=a.toNat_lt;have:=b.toNat_lt;unfold kV qX;rw[Za _ ae,Za _ ae,Za _ ae];simp only;have e:=DJ (a.toNat%4) b 0 ae ae;rw[zci] at e;rw[if_pos (mO _ _ ae ae),sI _ _ ae,e]
 | a::b::c::r=>by
  have:=a.toNat_lt;have:=b.toNat_lt;have:=c.toNat_lt;have ih:=WK r;rw[kV,qX,Za _ ae,Za _ ae,Za _ ae,Za _ ae];simp only;rw[ih,sI _ _ ae,DJ _ _ _ ae ae,zio _ _ ae];rfl
def sJ{a:UInt8}{r:La_}(h:jg a=none):qX (a::r)=none:=by
 match r with
 | []=>rfl
 | [b]=>simp[qX,h]
 | [b,c]=>simp[qX,h]
 | b::c::d::r=>simp[qX,h]
def sK{a b:UInt8}{r:La_}(h:jg b=none):qX (a::b::r)=none:=by
 match r with
 | []=>simp[qX,h]
 | [c]=>simp[qX,h]
 | c::d::r=>simp[qX,h]
def sL{a b c:UInt8}{r:La_}(h:jg c=none):qX (a::b::c::r)=none:=by
 match r with
 | []=>simp[qX,h]
 | d::r=>simp[qX,h]
def sM{a b c d:UInt8}{r:La_}(h:jg d=none):qX (a::b::c::d::r)=none:=by simp[qX,h]
def jq(s:La_)(at':Nat)(out:La_):Prop:=qX s=(qX (s.drop at')).map (out++·)
def jq.start(s:La_):jq s 0 []:=by unfold jq;simp
def jq.next{s out:La_}{k:Nat}{a b c d x y z u:UInt8}{r:La_}(h:jq s k out)(hd:s.drop k=a::b::c::d::r)(ha:jg a=some x)(hb:jg b=some y)(hc:jg c=some z)(hu:jg d=some u):jq s (k+4) (out++[by0 x y,by1 y z,by2 z u]):=by
 unfold jq at*;have ai:s.drop (k+4)=r:=by rw[<-zcf,hd];rfl
 rw[h,hd,ai,qX,ha,hb,hc,hu];simp only[Option.map_map];congr 1;funext o;simp
def UM(a b c:UInt8):UInt32:=Q9 (Q9 (qm (xu a) 16) (qm (xu b) 8)) (xu c)
def mP(u v:UInt32)(k:Nat)(h:u.toNat%2^k=0)(hv:v.toNat<2^k):(Q9 u v).toNat=u.toNat+v.toNat:=by exact ahF
def YP(a:UInt32)(n:Nat):(qm a n).toNat=a.toNat*2^n%4294967296:=by unfold qm;rw[UInt32.toNat_ofNat']
def Xf(a:UInt8):(xu a).toNat=a.toNat:=by have:=a.toNat_lt;unfold xu;rw[zaA (zdx this bd)]
def gG(a b:UInt8):(Q9 (qm (xu a) 16) (qm (xu b) 8)).toNat=a.toNat*65536+b.toNat*256:=by have:=a.toNat_lt;have:=b.toNat_lt;rw[mP _ _ 16 (by rw[YP,Xf];omega) (by rw[YP,Xf];omega),YP,YP,Xf,Xf];omega
def Hs(a:UInt8):(qm (xu a) 16).toNat=a.toNat*65536:=by have:=a.toNat_lt;rw[YP,Xf];omega
def By(a b c:UInt8):(UM a b c).toNat=a.toNat*65536+b.toNat*256+c.toNat:=by have:=c.toNat_lt;unfold UM;rw[mP _ _ 8 (by rw[gG];omega) (by rw[Xf];omega),gG,Xf]
def sN(n:UInt32)(k:Nat):(YN (kU n k) 63).toNat=n.toNat/2^k%64:=by have:=n.toNat_lt;show((kU n k).toNat&&&63)=_;rw[show(63:Nat)=2^6-1 from rfl,Nat.and_two_pow_sub_one_eq_mod];unfold kU;rw[zaA (zbk (zbB _ _) this)]
def xf(n:UInt32)(k:Nat):UInt8:=sgn (YN (kU n (18-6*k)) 63).toNat
def gH(n:UInt32):xf n 0=sgn (n.toNat/262144%64)/\xf n 1=sgn (n.toNat/4096%64)/\xf n 2=sgn (n.toNat/64%64)/\xf n 3=sgn (n.toNat%64):=by unfold xf;rw[sN,sN,sN,sN];refine⟨rfl,rfl,rfl,?_⟩;show sgn (n.toNat/1%64)=_;rw[Nat.div_one]
def Ht(a:UInt8):kV [a]=[xf (qm (xu a) 16) 0,xf (qm (xu a) 16) 1]:=by have:=a.toNat_lt;obtain⟨ai,aj,_,_⟩:=gH (qm (xu a) 16);rw[ai,aj,Hs];rw[show a.toNat*65536/262144%64=a.toNat/4 by omega,show a.toNat*65536/4096%64=a.toNat%4*16 by omega];rfl
def Hu(a b:UInt8):kV [a,b]=(zax 3).map (xf (Q9 (qm (xu a) 16) (qm (xu b) 8))):=by
 have:=a.toNat_lt;have:=b.toNat_lt;obtain⟨ai,aj,ak,_⟩:=gH (Q9 (qm (xu a) 16) (qm (xu b) 8));show[_,_,_]=[_,_,_]
 rw[ai,aj,ak,gG];rw[show(a.toNat*65536+b.toNat*256)/262144%64=a.toNat/4 by omega,show(a.toNat*65536+b.toNat*256)/4096%64=a.toNat%4*16+b.toNat/16 by omega,show(a.toNat*65536+b.toNat*256)/64%64=b.toNat%16*4 by omega]
def Bz(a b c:UInt8)(r:La_):kV (a::b::c::r)=(zax 4).map (xf (UM a b c))++kV r:=by have:=a.toNat_lt;have:=b.toNat_lt;have:=c.toNat_lt;obtain⟨ai,aj,ak,an⟩:=gH (UM a b c);show _::_::_::_::_=[_,_,_,_]++_;rw[ai,aj,ak,an,By];rw[show(a.toNat*65536+b.toNat*256+c.toNat)/262144%64=a.toNat/4 by omega,show(a.toNat*65536+b.toNat*256+c.toNat)/4096%64=a.toNat%4*16+b.toNat/16 by omega,show(a.toNat*65536+b.toNat*256+c.toNat)/64%64=b.toNat%16*4+c.toNat/64 by omega,show(a.toNat*65536+b.toNat*256+c.toNat)%64=c.toNat%64 by omega];rfl
def UQ(x:UInt32)(n:Nat):UInt32:=Q9 (qm x n) (kU x (32-n))
structure gR where
 a:UInt32
 b:UInt32
 c:UInt32
 d:UInt32
def q1(f:gR)(n:Nat):gR:=⟨wo f.a f.b,f.b,f.c,UQ (xD f.d (wo f.a f.b)) n⟩
def q2(f:gR)(n:Nat):gR:=⟨f.a,UQ (xD f.b (wo f.c f.d)) n,wo f.c f.d,f.d⟩
def quarter(f:gR):gR:=q2 (q1 (q2 (q1 f 16) 12) 8) 7
def YU(s:List UInt32)(i j k l:Nat):List UInt32 :=
 let f:=quarter ⟨xk s i,xk s j,xk s k,xk s l⟩
 (((s.set i f.a).set j f.b).set k f.c).set l f.d
def Vk(s:List UInt32)(i j k l:Nat):(YU s i j k l).length=s.length:=by simp[YU]
def vd(by':Nat)(s:List UInt32):Nat->List UInt32
 | 0=>s
 | i+1=>YU (vd by' s i) i (4+(i+by')%4) (8+(i+2*by')%4) (12+(i+3*by')%4)
def k7(by':Nat)(s:List UInt32):∀i,(vd by' s i).length=s.length
 | 0=>rfl
 | i+1=>by rw[vd,Vk,k7 by' s i]
def qF(s:List UInt32):Nat->List UInt32
 | 0=>s
 | r+1=>vd 1 (vd 0 (qF s r) 4) 4
def ji(s:List UInt32):∀r,(qF s r).length=s.length
 | 0=>rfl
 | r+1=>by rw[qF,k7,k7,ji s r]
def wS:La_:=[101,120,112,97,110,100,32,51,50,45,98,121,116,101,32,107]
def a0k(key inn:La_)(r:Nat):UInt32 :=
 if r<4 then xv wS (4*r) else if r<8 then xv key (4*(r-4)) else if r<12 then xv key (4*(r-8)+16) else xv inn (4*(r-12))
def ve(key inn:La_):List UInt32:=(zax 16).map (a0k key inn)
def jy(key inn:La_):(ve key inn).length=16:=by simp[ve]
def zfo(t s:List UInt32):List UInt32:=(zax 16).map λi=>wo (xk t i) (xk s i)
def Yq(t s:List UInt32):(zfo t s).length=16:=by simp[zfo]
def xQ(l:List UInt32):La_:=(l.map zeb).flatten
def xV:∀l:List UInt32,(xQ l).length=4*l.length
 | []=>rfl
 | x::r=>by
  have:=xV r;unfold xQ at this |-;rw[zca,za4,zac,this,zaj];simp[zeb];omega
def Yr(key inn:La_)(rounds:Nat):La_:=xQ (zfo (qF (ve key inn) (rounds/2)) (ve key inn))
def Ys(key inn:La_)(rounds:Nat):(Yr key inn rounds).length=64:=by rw[Yr,xV,Yq]
def vQ(key inn:La_)(rounds:Nat):La_ :=
 let t:=qF (ve key inn) (rounds/2)
 xQ (t.take 4)++xQ (t.drop 12)
def Yt(key inn:La_)(rounds:Nat):(vQ key inn rounds).length=32:=by simp[vQ,xV,ji,jy]
def jz(key zdR:La_)(rounds:Nat)(many:Nat):La_:=Yr (vQ key (zdR.take 16) rounds) (zw (zae many)++zdR.drop 16) rounds
def xJ(key zdR:La_)(rounds:Nat)(many:Nat)(b:La_):La_ :=
 if h:b.length=0 then[] else a0u b (jz key zdR rounds many)++xJ key zdR rounds (many+1) (b.drop 64)
termination_by b.length
decreasing_by simp;omega
def wB(key zdR:La_)(rounds:Nat)(b:La_):La_:=xJ key zdR rounds 0 b
def zd2(a b:La_):(a0u a b).length=min a.length b.length:=by simp[a0u]
def kJ(key zdR:La_)(rounds many:Nat):(jz key zdR rounds many).length=64:=Ys _ _ _
def vf(key zdR:La_)(rounds:Nat):∀(n many:Nat)(b:La_),b.length<=n->(xJ key zdR rounds many b).length=b.length
 | n,many,b,h=>by
  unfold xJ;by_cases h0:b.length=0
  ·rw[dif_pos h0,h0];rfl
  ·rw[dif_neg h0,zac,zd2,kJ]
   match n,h with
   | 0,h=>omega
   | n+1,h =>
    rw[vf key zdR rounds n (many+1) (b.drop 64) dj,zan];omega
def Zi(key zdR:La_)(rounds:Nat)(b:La_):(wB key zdR rounds b).length=b.length:=vf _ _ _ _ _ _ (zab _)
def QS(a b:UInt8):yj (yj a b) b=a:=by unfold yj;rw[UInt8.xor_assoc,UInt8.xor_self,UInt8.xor_zero]
def zdW{b:La_}(h:i<b.length):b[i]? = some (at8 b i):=by simp[at8,zbx,h]
def Qb{a s:La_}(h:i<min a.length s.length):(a0u a s)[i]? = some (yj (at8 a i) (at8 s i)):=by unfold a0u;rw[zay,zbj h];rfl
def wC(key zdR:La_)(rounds many:Nat):xJ key zdR rounds many []=[]:=by unfold xJ;simp
def vM(a s:La_):a0u (a0u a s) s=a.take s.length:=by
 apply zaK;intro aS;by_cases ag:aS<min a.length s.length
 ·have aM:(a0u a s)[aS]? = some (yj (at8 a aS) (at8 s aS)):=Qb ag;have ag:at8 (a0u a s) aS=yj (at8 a aS) (at8 s aS):=by rw[at8,zbx,aM];rfl
  have aM:(a0u (a0u a s) s)[aS]? = some (yj (at8 (a0u a s) aS) (at8 s aS)):=Qb (by rw[zd2];omega);rw[aM,ag,QS,zcv,if_pos ae,zdW ae]
 ·rw[zaf (by rw[zd2,zd2];omega),zaf cr]
def Ko(key zdR:La_)(rounds:Nat):∀(n many:Nat)(b:La_),b.length<=n->xJ key zdR rounds many (xJ key zdR rounds many b)=b
 | n,many,b,h=>by
  by_cases h0:b.length=0
  ·have:b=[]:=zaI h0;subst this;rw[wC,wC]
  ·have e:xJ key zdR rounds many b=a0u b (jz key zdR rounds many)++xJ key zdR rounds (many+1) (b.drop 64):=by
    conv=>lhs;unfold xJ
    rw[dif_neg h0]
   have aR:=vf key zdR rounds _ many b (zab _);have aH:=zd2 b (jz key zdR rounds many);rw[kJ] at aH;unfold xJ;rw[dif_neg ae]
   match n,h with
   | 0,h=>omega
   | n+1,h =>
    have eQ:=Ko key zdR rounds n (many+1) (b.drop 64) dj;by_cases ag:64<=b.length
    ·have ah:(xJ key zdR rounds many b).drop 64=xJ key zdR rounds (many+1) (b.drop 64):=by
      rw[e,zba ae,zak ae,zaB]
     have eR:a0u (xJ key zdR rounds many b) (jz key zdR rounds many)=a0u (a0u b (jz key zdR rounds many)) (jz key zdR rounds many):=by
      rw[e];unfold a0u;have eg:=kJ key zdR rounds many;have eS:=vf key zdR rounds _ (many+1) (b.drop 64) (zab _);simp only[zac,zaa,List.length_range,eg];have ai:min (min b.length 64+(xJ key zdR rounds (many+1) (b.drop 64)).length) 64=64:=ae;have aj:min (min b.length 64) 64=64:=ae;rw[ai,aj];apply List.map_congr_left;intro aS aO;have aO:=List.mem_range.1 aO;congr 1;simp only[at8,zbx];rw[zbC bq]
     rw[ah,eQ,eR,vM,kJ,zaS]
    ·have aT:xJ key zdR rounds (many+1) (b.drop 64)=[]:=by
      rw[zak ae,wC]
     rw[aT,za5] at e;rw[e,vM,kJ,zai ae,zak (by rw[aH];omega),wC,za5]
def m7(key zdR:La_)(rounds:Nat)(b:La_):wB key zdR rounds (wB key zdR rounds b)=b:=Ko _ _ _ _ _ _ (zab _)
def nat(p:UInt64×UInt64):Nat:=p.1.toNat+18446744073709551616*p.2.toNat
def wd(n:Nat):UInt64×UInt64:=(zae n,zae (n/18446744073709551616))
def xU(b:La_):UInt64×UInt64:=(zeE b 0,zeE b 8)
def yf(p:UInt64×UInt64):La_:=zw p.1++zw p.2
def zes(p q:UInt64×UInt64):UInt64×UInt64:=wd (nat p+nat q)
def q9(p q:UInt64×UInt64):UInt64×UInt64:=wd (nat p+340282366920938463463374607431768211456-nat q)
def yd(p:UInt64×UInt64):(yf p).length=16:=by simp[yf,zw]
def gV(p:UInt64×UInt64):nat p<340282366920938463463374607431768211456:=by have ag:=p.1.toNat_lt;have ag:=p.2.toNat_lt;unfold nat;omega
def UW(n:Nat):(wd n).1.toNat=n%18446744073709551616:=zbm
def UX(n:Nat):(wd n).2.toNat=n/18446744073709551616%18446744073709551616:=zbm
def gW(n:Nat):nat (wd n)=n%340282366920938463463374607431768211456:=by unfold nat;rw[UW,UX];omega
def gX(p:UInt64×UInt64):wd (nat p)=p:=by
 have ag:=p.1.toNat_lt;have ag:=p.2.toNat_lt;apply Prod.ext
 ·apply zaU.1;rw[UW];unfold nat;omega
 ·apply zaU.1;rw[UX];unfold nat;omega
def ziC{n m:Nat}(h:n%340282366920938463463374607431768211456=m%340282366920938463463374607431768211456):wd n=wd m:=by rw[<-gX (wd n),<-gX (wd m),gW,gW,h]
def uE(p q:UInt64×UInt64):q9 (zes p q) q=p:=by exact ahX
def uF(p q:UInt64×UInt64):zes (q9 p q) q=p:=by exact ahX
def UY(f:Nat->UInt8)(a:Nat):∀k,(∀j,j<k->(f j).toNat=a/2^(8*j)%256)->Vn f k=a%2^(8*k)
 | 0,_=>by simp[Vn,Nat.mod_one]
 | k+1,h=>by
  unfold Vn;rw[UY f a k (λj hj=>h j ae),h k ae,show 8*(k+1)=8*k+8 by omega,Nat.pow_add,Nat.mod_mul,zcu (a/_%256)]
def V8(n:UInt64)(h:j<8):at8 (zw n) j=KI (yG n (8*j)):=zeg (by simp[zw,h])
def fx(n:UInt64)(j:Nat):(KI (yG n (8*j))).toNat=n.toNat/2^(8*j)%256:=by unfold KI;rw[yO];exact zbh
def fy(b:La_)(at':Nat):(zeE b at').toNat=Vn (λk=>at8 b (at'+k)) 8:=KR _ _ ae
def nq{a b:La_}(h:i<a.length):at8 (a++b) i=at8 a i:=by simp[at8,zbx,zbC h]
def fz{a b:La_}:at8 (a++b) (a.length+i)=at8 b i:=by simp only[at8,zbx];rw[za6 ae];congr 3;omega
def nt(n:UInt64)(a b:La_):zeE (a++zw n++b) a.length=n:=by
 apply zaU.1;rw[fy,UY _ n.toNat 8 (λj hj=>by
  rw[zal,fz,nq (by rw[zy];exact hj),V8 n hj,fx])]
 exact Nat.mod_eq_of_lt n.toNat_lt
def Xp(p:UInt64×UInt64):xU (yf p)=p:=by unfold xU yf;have ag:=nt p.1 [] (zw p.2);have aM:=nt p.2 (zw p.1) [];rw[zaB,zas] at ag;rw[za5,zy] at aM;rw[ag,aM]
def Kq(b:La_)(at':Nat)(hj:j<8):at8 (zw (zeE b at')) j=at8 b (at'+j):=by apply zbp.1;rw[V8 _ hj,fx,fy,Vo _ j 8 hj]
def Xq{b:La_}(h:b.length=16):yf (xU b)=b:=by
 apply zaK;intro i;rcases zbl i 16 with hi|hi
 ·rw[a01 (by rw[yd];exact hi:i<(yf (xU b)).length),a01 (by omega:i<b.length)];congr 1;unfold yf xU;rcases zbl i 8 with h8|h8
  ·rw[nq (by rw[zy];exact h8),Kq _ _ h8,zbt]
  ·obtain⟨j,rfl⟩:∃j,i=8+j:=⟨i-8,ae⟩
   have ai:=fz (a:=zw (zeE b 0)) (b:=zw (zeE b 8)) (i:=j);rw[zy] at ai;rw[ai,Kq _ _ ae]
 ·rw[zaf (by rw[yd];exact hi),zaf ae]
def H6(b:La_)(i:Nat):UInt8:=if i%4=3 then zeX (at8 b i) 15 else if i%4=0/\i≠0 then zeX (at8 b i) 252 else at8 b i
def wT(b:La_):La_:=(zax 16).map (H6 b)
def dq(b:La_):(wT b).length=16:=by simp[wT]
def ZM(r v n:Nat):Nat:=(v+n)%PP*r%PP
def Xr(b:La_):Nat:=(leN b+340282366920938463463374607431768211456)%PP
def uG(b:La_):Nat:=leN (b++[1]++zg (15-b.length))%PP
def uH(r v n:Nat):ZM r v n<PP:=Nat.mod_lt _ bd
def xg(r v:Nat)(d:La_):Nat×La_:=if h:16<=d.length then xg r (ZM r v (Xr (d.take 16))) (d.drop 16) else(v,d)
termination_by d.length
decreasing_by simp;omega
def fA{r v:Nat}{d:La_}(h:¬16<=d.length):xg r v d=(v,d):=by unfold xg;rw[dif_neg h]
def fB{r v:Nat}{d:La_}(h:16<=d.length):xg r v d=xg r (ZM r v (Xr (d.take 16))) (d.drop 16):=by
 conv=>lhs;unfold xg
 rw[dif_pos h]
def wD(r:Nat):∀(n v:Nat)(d:La_),d.length<=n->v<PP->(xg r v d).1<PP/\(xg r v d).2.length<16
 | n,v,d,h,hv=>by
  by_cases h16:16<=d.length
  ·rw[fB h16]
   match n,h with
   | 0,h=>omega
   | n+1,h=>exact wD r n _ _ dj (uH _ _ _)
  ·rw[fA h16];exact⟨hv,Nat.lt_of_not_le h16⟩
def ke(r v:Nat)(d:La_):Nat:=if d.length=0 then v else ZM r v (uG d)
def BQ{r v:Nat}{d:La_}(h:v<PP):ke r v d<PP:=by
 unfold ke;split
 ·exact h
 ·exact uH _ _ _
def rOf(key:La_):Nat:=leN (wT key)%PP
def D3(key:La_):rOf key<PP:=Nat.mod_lt _ bd
def Yv(key:La_):List UInt32:=(zax 268).map λi=>xv key (4*i)
def dt(key:La_):(Yv key).length=268:=by simp[Yv]
def JD(a k b l:UInt32):UInt64:=qE (y9 (wo a k)) (y9 (wo b l))
def uI(ws:List UInt32)(b:La_)(u p:Nat):UInt64 :=
 zF (JD (xv b (16*u)) (xk ws (4*u+4*p)) (xv b (16*u+8)) (xk ws (4*u+4*p+2))) (JD (xv b (16*u+4)) (xk ws (4*u+4*p+1)) (xv b (16*u+12)) (xk ws (4*u+4*p+3)))
def YW(ws:List UInt32)(b:La_):Nat->List UInt64
 | 0=>[0,0,0,0]
 | u+1=>(zax 4).map λp=>zF (at64 (YW ws b u) p) (uI ws b u p)
def wE(ws:List UInt32)(b:La_):∀u,(YW ws b u).length=4
 | 0=>rfl
 | u+1=>by simp[YW]
def nh(ws:List UInt32)(b:La_):La_:=(YW ws b (b.length/16)).flatMap zw
def kE:∀l:List UInt64,(l.flatMap zw).length=8*l.length
 | []=>rfl
 | x::l=>by rw[List.flatMap_cons,zac,kE l,zy,zaj];omega
def BR(ws:List UInt32)(b:La_):(nh ws b).length=32:=by unfold nh;rw[kE,wE]
def ZN(kt zdY:La_)(n:Nat):UInt64×UInt64 :=
 xU (X2 (ke (rOf kt) (xg (rOf kt) (xg (rOf kt) 0 (yf (wd (8*n)))).1 ((xg (rOf kt) 0 (yf (wd (8*n)))).2++zdY)).1 (xg (rOf kt) (xg (rOf kt) 0 (yf (wd (8*n)))).1 ((xg (rOf kt) 0 (yf (wd (8*n)))).2++zdY)).2))
def kF(ws:List UInt32)(r v:Nat)(p d:La_):Nat×La_ :=
 if h:d.length=0 then(v,p) else kF ws r (xg r v (p++nh ws (d.take 1024))).1 (xg r v (p++nh ws (d.take 1024))).2 (d.drop 1024)
termination_by d.length
decreasing_by simp;omega
def ZO(km:La_)(ws:List UInt32)(b:La_):UInt64×UInt64 :=
 xU (X2 (ke (rOf km) (kF ws (rOf km) 0 [] (jM b 16)).1 (kF ws (rOf km) 0 [] (jM b 16)).2))
structure jY where
 key:La_
 ks:List (La_)
 kt:La_
 km:La_
 ws:List UInt32
def nw(k:jY)(zdY b:La_):UInt64×UInt64:=zes (ZN k.kt zdY b.length) (ZO k.km k.ws b)
def gY(key:La_):La_:=wB key (1::zg 23) 12 (zg 1136)
def D4(key:La_):jY:=⟨key,expand 8 true ((gY key).take 32),block ((gY key).drop 32),block ((gY key).drop 48),Yv ((gY key).drop 64)⟩
def vk(k:jY)(m:UInt64×UInt64)(b:La_):La_:=wB k.key (yf m++[1]++zg 7) 12 b
def Qn(k:jY)(m:UInt64×UInt64)(b:La_):(vk k m b).length=b.length:=Zi _ _ _ _
def Kr(k:jY)(m:UInt64×UInt64)(b:La_):vk k m (vk k m b)=b:=m7 _ _ _ _
def wg(k:jY)(zdY m:La_):UInt64×UInt64:=xU (enc k.ks (yf (zes (xU (m.drop (m.length-16))) (nw k zdY (m.take (m.length-16))))))
def KS(k:jY)(zdY m:La_):La_ :=
 vk k (wg k zdY m) (m.take (m.length-16))++yf (q9 (wg k zdY m) (nw k zdY (vk k (wg k zdY m) (m.take (m.length-16)))))
def wh(k:jY)(zdY m:La_):UInt64×UInt64:=zes (xU (m.drop (m.length-16))) (nw k zdY (m.take (m.length-16)))
def KT(k:jY)(zdY m:La_):La_ :=
 vk k (wh k zdY m) (m.take (m.length-16))++yf (q9 (xU (dec k.ks (yf (wh k zdY m)))) (nw k zdY (vk k (wh k zdY m) (m.take (m.length-16)))))
def ny(k:jY)(zdY:La_){m:La_}(h:16<=m.length):(KS k zdY m).length=m.length:=by unfold KS;rw[zac,Qn,yd,zam];omega
def nz(k:jY)(zdY:La_){m:La_}(h:16<=m.length):(KT k zdY m).length=m.length:=by unfold KT;rw[zac,Qn,yd,zam];omega
def JE(a:La_)(p:UInt64×UInt64):(a++yf p).take ((a++yf p).length-16)=a:=by rw[zac,yd,zcE,zaL (zab _),List.take_length]
def nA(a:La_)(p:UInt64×UInt64):(a++yf p).drop ((a++yf p).length-16)=yf p:=by rw[zac,yd,zcE,zba (zab _),List.drop_length,zaB]
def BU(k:jY)(hk:2<=k.ks.length)(zdY:La_){m:La_}(h:16<=m.length):KT k zdY (KS k zdY m)=m:=by
 have eh:wh k zdY (KS k zdY m)=wg k zdY m:=by
  unfold wh KS;rw[JE,nA,Xp,uF]
 have aW:(KS k zdY m).take ((KS k zdY m).length-16)=vk k (wg k zdY m) (m.take (m.length-16)):=by
  unfold KS;rw[JE]
 unfold KT;rw[eh,aW,Kr];have ag:(m.drop (m.length-16)).length=16:=dj;have aF:yf (q9 (xU (dec k.ks (yf (wg k zdY m)))) (nw k zdY (m.take (m.length-16))))=m.drop (m.length-16):=by
  unfold wg;rw[Xq (qw _ _),a0g hk (yd _),Xp,uE,Xq ag]
 rw[aF,zaS]
def BV(k:jY)(hk:2<=k.ks.length)(zdY:La_){m:La_}(h:16<=m.length):KS k zdY (KT k zdY m)=m:=by
 have eh:wg k zdY (KT k zdY m)=wh k zdY m:=by
  unfold wg KT;rw[JE,nA,Xp,uF,Xq (jN _ _),a0h hk (yd _),Xp]
 have aW:(KT k zdY m).take ((KT k zdY m).length-16)=vk k (wh k zdY m) (m.take (m.length-16)):=by
  unfold KT;rw[JE]
 unfold KS;rw[eh,aW,Kr];have ag:(m.drop (m.length-16)).length=16:=dj;have aF:yf (q9 (wh k zdY m) (nw k zdY (m.take (m.length-16))))=m.drop (m.length-16):=by
  unfold wh;rw[uE,Xq ag]
 rw[aF,zaS]
def D5(key:La_):2<=(D4 key).ks.length:=by show 2<=(expand _ _ _).length;rw[Yk];omega
def upR(w:UInt64×UInt64):UInt64×UInt64:=(qV (xN w.1 1) (yG w.2 63),qV (qV (xN w.2 1) (yG w.1 63)) (qE (yG w.2 63) 13979173243358019584))
def zgE(w:UInt64×UInt64):UInt64×UInt64:=(qV (yG w.1 1) (xN w.2 63),qV (yG w.2 1) (qE (xS w.1 1) 16212958658533785600))
def zg3(w:UInt64×UInt64)(i:Nat):UInt64:=if i<64 then xS (yG w.1 i) 1 else xS (yG w.2 (i-64)) 1
def zfe(a b:UInt64×UInt64)(f:UInt64):UInt64×UInt64:=(qV a.1 (qE f b.1),qV a.2 (qE f b.2))
def UZ(x y:UInt64×UInt64):Nat->UInt64×UInt64
 | 0=>(0,0)
 | i+1=>zgE (zfe (UZ x y i) x (zg3 y i))
def ziD(x y:UInt64×UInt64):UInt64×UInt64:=UZ x y 128
def JF(h:La_):Nat->UInt64×UInt64
 | 0=>ziD (xU h) (1,0)
 | k+1=>upR (JF h k)
def atP(t:List (UInt64×UInt64))(i:Nat):UInt64×UInt64:=t.getD i (0,0)
def wF(h:La_):Nat->List (UInt64×UInt64)
 | 0=>List.replicate 16 (0,0)
 | m+1=>(wF h m).set (m+1) (zfe (atP (wF h m) (m+1-2^(m+1).log2)) (JF h (m+1).log2) 1)
def nB(h:La_):List (UInt64×UInt64):=wF h 15
def Xs(h:La_):∀m,(wF h m).length=16
 | 0=>by simp[wF]
 | m+1=>by rw[wF,zav,Xs h m]
def nC(t:List (UInt64×UInt64))(s:UInt64×UInt64)(n:UInt8):UInt64×UInt64:=zfe (upR (upR (upR (upR s)))) (atP t n.toNat) 1
def uJ(t:List (UInt64×UInt64))(a:La_):Nat->UInt64×UInt64
 | 0=>(0,0)
 | i+1=>nC t (nC t (uJ t a i) (zeR (at8 a (15-i)) 4)) (zeX (at8 a (15-i)) 15)
def zgX(t:List (UInt64×UInt64))(a:La_):La_:=yf (uJ t a 16)
def Qo(t:List (UInt64×UInt64))(a:La_):(zgX t a).length=16:=yd _
def vK(t:List (UInt64×UInt64))(v b:La_):La_:=if h:b.length=0 then v else vK t (zgX t (block (a0u v b))) (b.drop 16)
termination_by b.length
decreasing_by simp;omega
def fC(t:List (UInt64×UInt64))(v:La_):vK t v []=v:=by unfold vK;simp
def uK{t:List (UInt64×UInt64)}{v b:La_}(h:b.length≠0):vK t v b=vK t (zgX t (block (a0u v b))) (b.drop 16):=by
 conv=>lhs;unfold vK
 rw[dif_neg h]
def Xt(t:List (UInt64×UInt64)):∀(n:Nat)(v b:La_),b.length<=n->v.length=16->(vK t v b).length=16
 | n,v,b,h,hv=>by
  by_cases h0:b.length=0
  ·rw[zaI h0,fC];exact hv
  ·rw[uK h0]
   match n,h with
   | 0,h=>omega
   | n+1,h=>exact Xt t n _ _ dj (Qo _ _)
def jK(n:Nat)(kind:UInt64):La_:=yf (ZX (xN (zae n) 4) kind,yG (zae n) 60)
def jL(zdY m:La_):La_:=if m.length%16=0 then jK zdY.length 2++jM zdY 16++m else jK zdY.length 3++jM zdY 16++kz m 1 16
def zek(h zdY m:La_):La_:=vK (nB h) (zg 16) (jM (jL zdY m) 16)
def zej(h zdY m:La_):(zek h zdY m).length=16:=Xt _ _ _ _ (zab _) (ze 16)
def gZ(start:La_)(i:Nat):La_:=(zax 16).map λj=>if j<8 then yj (at8 start j) (at8 (zw (zae i)) j) else at8 start j
def wU(ks:List (La_))(start:La_)(i:Nat):La_:=enc ks (gZ start i)
def Yw(ks:List (La_))(start:La_)(i:Nat):(wU ks start i).length=16:=qw _ _
def qG(ks:List (La_))(start b:La_):La_:=(zax b.length).map λj=>yj (at8 b j) (at8 (wU ks start (1+j/16)) (j%16))
def wi(ks:List (La_))(start b:La_):(qG ks start b).length=b.length:=by simp[qG]
def g8(ks:List (La_))(start b:La_):qG ks start (qG ks start b)=b:=by
 apply zaK;intro aS;by_cases ag:aS<b.length
 ·have aM:(qG ks start b)[aS]? = some (yj (at8 b aS) (at8 (wU ks start (1+aS/16)) (aS%16))):=by simp[qG,ag]
  have ij:(qG ks start (qG ks start b))[aS]? = some (yj (at8 (qG ks start b) aS) (at8 (wU ks start (1+aS/16)) (aS%16))):=by
   conv=>lhs;unfold qG
   rw[zay,zbj (by simp[ag])];rfl
  rw[ij,zeg aM,Xm,a01 ag]
 ·rw[zaf (by rw[wi,wi];omega),zaf ae]
structure jr where
 ks:List (La_)
 h:La_
 l:La_
def uL(n:Nat)(long:Bool)(key:La_):jr:=⟨expand n long key,enc (expand n long key) (zg 16),enc (expand n long key) (1::zg 15)⟩
def QV(a b:La_)(h:a.length=16):plusB [a,b]=both a b:=by show both (both (zg 16) a) b=_;rw[QT h]
def tg(a b l:La_):plusB [a,b,l]=plusB [b,a,l]:=by show both (both (both (zg 16) a) b) l=both (both (both (zg 16) b) a) l;rw[qh (zg 16) a b,Zw a b,<-qh]
def Yx(k:jr)(zdY m:La_):La_:=plusB [block (m.take 16),zek k.h zdY (m.drop 16)]
def zeS(k:jr)(zdY m two:La_):La_ :=
 plusB [two,zek k.h zdY (qG k.ks (plusB [Yx k zdY m,two,k.l]) (m.drop 16))]++qG k.ks (plusB [Yx k zdY m,two,k.l]) (m.drop 16)
def g9(k:jr)(zdY m:La_):La_:=zeS k zdY m (enc k.ks (Yx k zdY m))
def ld(k:jr)(zdY m:La_):La_:=zeS k zdY m (dec k.ks (Yx k zdY m))
def a0i(a b:La_):(plusB [a,b]).length=16:=zK _ _
def Qp(k:jr)(zdY m:La_):(Yx k zdY m).length=16:=a0i _ _
def JG(k:jr)(zdY m two:La_)(h:16<=m.length):(zeS k zdY m two).length=m.length:=by unfold zeS;rw[zac,a0i,wi,zan];omega
def nD(k:jr)(zdY m:La_)(h:16<=m.length):(g9 k zdY m).length=m.length:=JG _ _ _ _ h
def nE(k:jr)(zdY m:La_)(h:16<=m.length):(ld k zdY m).length=m.length:=JG _ _ _ _ h
def a0j{b:La_}(h:b.length=16):block b=b:=by
 apply zaK;intro aS;by_cases aO:aS<16
 ·rw[a01 (by omega:aS<b.length)];simp[block,aO]
 ·rw[zaf dd,zaf ae]
def fD(k:jr)(zdY m two:La_)(h:16<=m.length)(h2:two.length=16):Yx k zdY (zeS k zdY m two)=two/\zeS k zdY (zeS k zdY m two) (Yx k zdY m)=m:=by
 have ah:(zeS k zdY m two).drop 16=qG k.ks (plusB [Yx k zdY m,two,k.l]) (m.drop 16):=by
  unfold zeS;rw[zba (by rw[a0i];omega),zak (by rw[a0i];omega),zaB]
 have aW:(zeS k zdY m two).take 16=plusB [two,zek k.h zdY (qG k.ks (plusB [Yx k zdY m,two,k.l]) (m.drop 16))]:=by
  unfold zeS;rw[zaL (by rw[a0i];omega),zai (by rw[a0i];omega)]
 have oE:Yx k zdY (zeS k zdY m two)=two:=by
  unfold Yx;rw[aW,ah,a0j (a0i _ _),QV _ _ (a0i _ _),QV _ _ h2,yH h2]
 refine⟨oE,?_⟩;have aF:block (m.take 16)=m.take 16:=a0j cr;have ag:Yx k zdY m=both (m.take 16) (zek k.h zdY (m.drop 16)):=by
  unfold Yx;rw[aF,QV _ _ cr]
 generalize zeS k zdY m two=ep at*;unfold zeS;rw[oE,ah,tg two,g8,QV _ _ (Qp _ _ _),ag,yH cr,zaS]
def BW(k:jr)(hk:2<=k.ks.length)(zdY:La_){m:La_}(h:16<=m.length):ld k zdY (g9 k zdY m)=m:=by obtain⟨ag,aM⟩:=fD k zdY m (enc k.ks (Yx k zdY m)) h (qw _ _);unfold ld g9;rw[ag,a0g hk (Qp _ _ _),aM]
def BX(k:jr)(hk:2<=k.ks.length)(zdY:La_){m:La_}(h:16<=m.length):g9 k zdY (ld k zdY m)=m:=by obtain⟨ag,aM⟩:=fD k zdY m (dec k.ks (Yx k zdY m)) h (jN _ _);unfold ld g9;rw[ag,a0h hk (Qp _ _ _),aM]
inductive yo where
 | adi (k:jY)
 | hct (k:jr)
 | aez (k:zx)
def yo.alg:yo->Nat
 | .adi _=>1
 | .hct _=>2
 | .aez _=>3
def yo.least:yo->Nat
 | .adi _=>16
 | .hct _=>16
 | .aez _=>1
def yo.Fit:yo->Prop
 | .adi k=>2<=k.ks.length
 | .hct k=>2<=k.ks.length
 | .aez _=>True
def xG(k:yo)(zdY m:La_)(back:Bool):La_ :=
 match k with
 | .adi k=>if back then KT k zdY m else KS k zdY m
 | .hct k=>if back then ld k zdY m else g9 k zdY m
 | .aez k=>ze6 k [zdY] m back
def vl{k:yo}(zdY:La_){m:La_}(back:Bool)(h:k.least<=m.length):(xG k zdY m back).length=m.length:=by
 cases k with
 | adi k=>cases back;exact ny _ _ h;exact nz _ _ h
 | hct k=>cases back;exact nD _ _ _ h;exact nE _ _ _ h
 | aez k=>exact wA _ _ _ _
def KU{k:yo}(hk:k.Fit)(zdY:La_){m:La_}(back:Bool)(h:k.least<=m.length):xG k zdY (xG k zdY m back) (!back)=m:=by
 cases k with
 | adi k=>cases back;exact BU _ hk _ h;exact BV _ hk _ h
 | hct k=>cases back;exact BW _ hk _ h;exact BX _ hk _ h
 | aez k=>exact fu _ _ _ _
def zd6(alg:Int)(n:Nat):Nat :=
 if alg=1 then(if n=32 then 0 else 2)
 else if alg=2 then(if n=16\/n=24\/n=32 then 0 else 2)
 else if alg=3 then(if 0<n/\n<=128 then 0 else 2)
 else 8
def vS(alg:Int)(key:La_):yo :=
 if alg=1 then .adi (D4 key) else if alg=2 then .hct (uL (key.length/4) (key.length==32) key) else .aez (qy key)
def Qq(alg:Int)(key:La_):(vS alg key).Fit:=by
 unfold vS;split
 ·exact D5 key
 ·split
  ·show 2<=(expand _ _ _).length;rw[Yk];omega
  ·trivial
def wX(n pad:Nat):Nat:=min ((n+pad-1)/pad*pad) 255
def Pad(p:Nat):Prop:=p=16\/p=32\/p=64
instance (p:Nat):Decidable (Pad p):=by unfold Pad;infer_instance
def jt(name:La_):Prop:=name.length≠0/\name.length<=255/\(0:UInt8)∉name
instance (name:List UInt8):Decidable (jt name):=by unfold jt;infer_instance
def WD(name:La_)(pad:Nat):La_:=name++zg (wX name.length pad-name.length)
def KV{n pad:Nat}(hp:Pad pad)(h0:n≠0)(h1:n<=255):n<=wX n pad/\16<=wX n pad/\wX n pad<=255/\(wX n pad=255\/wX n pad%pad=0):=by unfold wX;rcases hp with rfl|rfl|rfl<;>omega
def Qr{pad:Nat}(hp:Pad pad)(h:jt name):(WD name pad).length=wX name.length pad:=by have:=KV hp h.1 h.2.1;unfold WD;rw[zac,ze];omega
def Ks(n pad:Nat):Bool:=decide (n=255\/0<n/\n<255/\n%pad=0)
def Nb{pad:Nat}(hp:Pad pad)(h:jt name):Ks (wX name.length pad) pad=true:=by have:=KV hp h.1 h.2.1;unfold Ks;rw[decide_eq_true_iff];omega
def nF{n pad:Nat}(hp:Pad pad)(h:Ks n pad=true):16<=n/\n<=255:=by have h:=of_decide_eq_true h;rcases hp with rfl|rfl|rfl<;>omega
def qz:La_->Nat
 | []=>0
 | x::r=>if qz r=0 then(if x=0 then 0 else 1) else qz r+1
def BY:∀b,qz b<=b.length
 | []=>zab _
 | x::r=>by
  have:=BY r;unfold qz;simp only[zaj];split
  ·split<;>omega
  ·omega
def Z6(x:UInt8)(r:La_):qz (x::r)=if qz r=0 then(if x=0 then 0 else 1) else qz r+1:=rfl
def MG:∀n,qz (zg n)=0
 | 0=>rfl
 | n+1=>by
  rw[show zg (n+1)=0::zg n from rfl,Z6,if_pos (MG n),if_pos rfl]
def MP:∀(b:La_)(n:Nat),(0:UInt8)∉b->qz (b++zg n)=b.length
 | [],n,_=>MG n
 | x::r,n,h=>by
  have ih:=MP r n (λhh=>h (zaN _ hh));have hx:¬x=0:=λe=>h (by rw[e];simp);rw[zbq,Z6,ih,zaj,if_neg hx];split<;>omega
def YX:∀b,qz (b++[0])=qz b
 | []=>rfl
 | x::r=>by rw[zbq,Z6,YX r,Z6]
def Qs:∀(b:La_)(x:UInt8),x≠0->qz (b++[x])=b.length+1
 | [],x,h=>by
  rw[zaB,Z6,if_neg h,if_pos (show qz []=0 from rfl)];rfl
 | y::r,x,h=>by
  rw[zbq,Z6,Qs r x h,if_neg ae];rfl
def Vr(b:La_)(pad:Nat):La_×Int :=
 if jt (b.take (qz b))/\wX (b.take (qz b)).length pad=b.length then(b.take (qz b),0) else([],14)
def MQ(k:yo)(pad:Nat)(folder:UInt64)(name:La_):La_×Int :=
 if jt name then(kV (xG k (zw folder) (WD name pad) false),0) else([],15)
def nG(k:yo)(pad:Nat)(folder:UInt64)(text:La_):La_×Int:=match qX text with
 | none=>([],13)
 | some b=>if Ks b.length pad then Vr (xG k (zw folder) b true) pad else([],4)
def Nc{pad:Nat}(hp:Pad pad)(h:jt name):Vr (WD name pad) pad=(name,0):=by
 unfold Vr;have ai:(WD name pad).take (qz (WD name pad))=name:=by
  unfold WD;rw[MP _ _ h.2.2,List.take_left'];rfl
 rw[ai,if_pos ⟨h,by rw[Qr hp h]⟩]
def Nx{k:yo}{pad:Nat}(hk:k.Fit)(hl:k.least<=16)(hp:Pad pad)(folder:UInt64)(h:jt name):nG k pad folder (MQ k pad folder name).1=(name,0):=by have eI:=KV hp h.1 h.2.1;have eJ:=Qr hp h;unfold MQ nG;rw[if_pos h,WK];simp only;rw[vl _ _ (by rw[eJ];omega),eJ,if_pos (Nb hp h)];have aF:=KU hk (zw folder) (m:=WD name pad) false (by rw[eJ];omega);rw[Bool.not_false] at aF;rw[aF,Nc hp h]
open RowKit ChangeShapes WideShapes
structure wY(n:Nat)(w:World)(ao:OA)(vs:List (Lb_)):Prop where
 each:∀v∈vs,v.length=n
 lies:zr w ao vs.flatten
def YY(n:Nat):∀(vs:List (Lb_))(i j:Nat)(v:Lb_),(∀v∈vs,v.length=n)->vs[i]? = some v->j<n->vs.flatten[n*i+j]? = v[j]?
 | [],i,j,v,_,hi,_=>by cases hi
 | x::vs,0,j,v,hv,hi,hj=>by
  simp at hi;subst hi;have:=hv x ab;rw[za4,Nat.mul_zero,zbt,zbC ae]
 | x::vs,i+1,j,v,hv,hi,hj=>by
  have:=hv x ab;rw[List.getElem?_cons_succ] at hi;rw[za4,za6 (by rw[zdy];omega),this,show n*(i+1)+j-n=n*i+j by rw[zdy];omega];exact YY n vs i j v (λu hu=>hv u (zaN _ hu)) hi hj
def wY.range{n:Nat}{vs:List (Lb_)}(h:wY n w ao vs)(hn:0<n){v:Lb_}(hi:vs[i]? = some v):∃b off,ao=some ⟨b,off,none⟩/\b<w.heap.size/\w.rangeAt b (off+i*n) v:=by
 have aQ:=h.each v (zad hi);have oK:∀j u,v[j]? = some u->vs.flatten[n*i+j]? = some u:=λj u hu=>by
  have aA:j<n:=by
   exact al1
  rw[YY n vs i j v h.each hi aA];exact hu
 exact akT
def Fit(n:Int):Prop:=-9223372036854775808<=n/\n<=9223372036854775807
def YZ{n:Int}(h:(Lit.int .i64 n).wf=true):Fit n:=by have:-9223372036854775808<=n/\n<=9223372036854775807:=dr;exact this
def KX{H:Type}{enc:TypeId×Value->H}{base:Nat}{spare:Nat->Bool}{held:Bool}{t e:TypeId}{fuel:Nat}{cs:Lb_}{x:DataW H×List MemPlace}(ht:P.underlying t=some (.slice e))(he:P.underlying e=some (.int .u8))(hc:P.cellsOf e=1)(h:DataW.trod enc P w base spare held fuel t cs=some x):∃(ao:OA)(cap:Nat)(bs:La_),cs=[.slice ao bs.length cap]/\bs.length<=cap/\cap<=maxLen/\zr w ao (bs.map B):=by exact akQ
structure nI where
 d:Int
 n:Int
 po:OA
 pc:Nat
 p:La_
 so:OA
 sc:Nat
 s:La_
def nI.vals(x:nI):Lb_:=[.int .i64 x.d,.int .i64 x.n,.slice x.po x.p.length x.pc,.slice x.so x.s.length x.sc]
structure nI.In(w:World)(x:nI):Prop where
 d:Fit x.d
 n:Fit x.n
 p:zr w x.po (x.p.map B)
 s:zr w x.so (x.s.map B)
 pc:x.p.length<=x.pc/\x.pc<=maxLen
 sc:x.s.length<=x.sc/\x.sc<=maxLen
structure uO(w:World)(ao:OA)(xs:List nI):Prop where
 rows:wY 4 w ao (xs.map nI.vals)
 each:∀x∈xs,x.In w
def uO.at{xs:List nI}(h:uO w ao xs){x:nI}(hi:xs[i]? = some x):x.In w/\∃b off,ao=some ⟨b,off,none⟩/\b<w.heap.size/\w.rangeAt b (off+i*4) x.vals :=
 ⟨h.each x (zad hi),h.rows.range ae Ax⟩
def Kc(n:Int)(pass secret:La_):Int :=
 if n<0\/8<=n then 16 else if pass.length=0\/128<pass.length then 2 else if secret.length=0 then 7 else if 64<secret.length then 6 else 0
def Qt(s:Hdr)(n:Int)(pass secret:La_):Hdr:=if Kc n pass secret=0 then s.set n.toNat (XV n.toNat pass secret) else s
def Vt(n:Int):Int:=if n<0\/8<=n then 16 else 0
def ZP(s:Hdr)(n:Int):Hdr:=if n<0\/8<=n then s else s.set n.toNat []
def a0v.set{s:Hdr}{b:La_}(h:a0v s)(i:Nat)(hb:b.length=0\/17<=b.length/\b.length<=80):a0v (s.set i b):=by
 intro ef hx;rcases List.mem_or_eq_of_mem_set hx with hx|rfl
 ·exact h ef hx
 ·exact hb
def B0{n:Int}(h:Kc n pass secret=0):0<=n/\n<8/\0<pass.length/\pass.length<=128/\0<secret.length/\secret.length<=64:=by
 unfold Kc at h;split at h
 ·omega
 ·split at h
  ·omega
  ·split at h
   ·omega
   ·split at h
    ·omega
    ·omega
def a0v.lay{s:Hdr}(h:a0v s)(n:Int)(pass secret:La_):a0v (Qt s n pass secret):=by
 unfold Qt;split
 ·next h0 =>
  have:=B0 h0;exact h.set _ (.inr (by rw[Xu];omega))
 ·exact h
def a0v.clear{s:Hdr}(h:a0v s)(n:Int):a0v (ZP s n):=by
 unfold ZP;split
 ·exact h
 ·exact h.set _ (.inl rfl)
def a0v.empty:a0v KW:=by intro ef aH;obtain rfl:=List.eq_of_mem_replicate aH;exact .inl rfl
def JI(pass secret:La_):∀(r:Hdr)(n j:Nat),r[j]? = some (XV (n+j) pass secret)->(∀i,i<j->r[i]? = some [])->Yy pass n r=some (secret,n+j)
 | [],n,j,h,_=>by simp at h
 | b::r,n,0,h,_=>by
  simp at h;subst h;rw[Yy,if_neg (by rw[Xu];omega),th];rfl
 | b::r,n,j+1,h,he=>by
  simp at h;have h0:=he 0 ae;simp at h0;subst h0;rw[Yy,if_pos (show([]:La_).length=0 from zas),JI pass secret r (n+1) j (by rw[h,show n+1+j=n+(j+1) by omega]) (λi hi=>by have:=he (i+1) ae;simpa using this)];congr 2;omega
def nJ{s:Hdr}{k:Nat}(h:s[k]? = some (XV k pass secret))(he:∀i,i<k->s[i]? = some []):nH pass s=some (secret,k):=by
 have:=JI pass secret s 0 k (by rw[zbt];exact h) he
 rwa [zbt] at this
def D7{n:Nat}(hn:n<8)(h0:0<pass.length)(h1:pass.length<=128)(h2:0<secret.length)(h3:secret.length<=64):Kc (n:Int) pass secret=0:=by unfold Kc;rw[if_neg ae,if_neg ae,if_neg ae,if_neg ae]
def k9(n:Nat):La_:=yf (zae n,0)
def Kt(n:Nat):(k9 n).length=16:=by unfold k9 yf;rw[zac,zy,zy]
def kf(size:Nat)(st:La_)(n:Nat):La_:=(st.drop (n*size)).take size
def Qu(st:La_)(a:Nat)(b:La_):La_:=st.take a++b++st.drop (a+b.length)
def Z7{a:Nat}{b:La_}(h:a+b.length<=st.length):(Qu st a b).length=st.length:=by unfold Qu;simp only[zac,zam,zan];omega
def H7{a:Nat}{b:La_}(h:a+b.length<=st.length)(i:Nat):(Qu st a b)[i]? = if a<=i/\i<a+b.length then b[i-a]? else st[i]?:=by
 unfold Qu;have ai:(List.take a st).length=a:=cr;by_cases ag:i<a
 ·rw[if_neg ae,zal,zbC ae,zcv,if_pos ag]
 ·by_cases ag:i<a+b.length
  ·rw[if_pos ae,zal,za6 ae,zbC ae,ai]
  ·rw[if_neg ae,za6 (by rw[zac];omega),zbw,zac,ai];congr 1;omega
def lh(size:Nat)(st:La_)(n j:Nat):(kf size st n)[j]? = if j<size then st[n*size+j]? else none:=by unfold kf;rw[zcv,zbw]
def fits{size zdO n:Nat}(h:n<zdO):n*size+size<=size*zdO:=by have:=za0 size (show n+1<=zdO from h);rw[zbc,zbZ] at this;rw[zcu size];exact this
def apart{size m n:Nat}(h:m<n):m*size+size<=n*size:=by have:=za0 size (show m+1<=n from h);rw[zbc,zbZ] at this;exact this
def ja{size zdO n:Nat}(hl:st.length=size*zdO)(h:n<zdO):(kf size st n).length=size:=by have:=fits (size:=size) h;unfold kf;rw[zam,zan];omega
def lp{size zdO n m:Nat}{b:La_}(hl:st.length=size*zdO)(hb:b.length=size)(hn:n<zdO):kf size (Qu st (n*size) b) m=if m=n then b else kf size st m:=by
 have eP:=fits (size:=size) hn;apply zaK;intro aq;rw[lh];by_cases aA:aq<size
 ·rw[if_pos aA,H7 ae];by_cases ai:m=n
  ·subst ai;rw[if_pos ae,if_pos rfl];congr 1;omega
  ·rw[if_neg ai,lh,if_pos aA,if_neg];rcases Nat.lt_or_gt_of_ne ai with h|h
   ·have:=apart (size:=size) h;omega
   ·have:=apart (size:=size) h;omega
 ·rw[if_neg aA];by_cases ai:m=n
  ·subst ai;rw[if_pos rfl,zaf ae]
  ·rw[if_neg ai,lh,if_neg aA]
def kK(size:Nat)(k:yo)(st:La_)(n:Nat)(back:Bool):La_:=Qu st (n*size) (xG k (k9 n) (kf size st n) back)
def Zk{size zdO n:Nat}{k:yo}(hl:st.length=size*zdO)(hk:k.least<=size)(hn:n<zdO):(kK size k st n back).length=st.length:=by have eg:=ja hl hn;refine Z7 ?_;rw[vl _ _ (by rw[eg];exact hk),eg,hl];exact fits hn
def Qv{size zdO n m:Nat}{k:yo}(hl:st.length=size*zdO)(hk:k.least<=size)(hn:n<zdO):kf size (kK size k st n back) m=if m=n then xG k (k9 n) (kf size st n) back else kf size st m:=by have eg:=ja hl hn;exact lp hl (by rw[vl _ _ (by rw[eg];exact hk),eg]) hn
structure Vol where
 alg:Int
 size:Nat
 zdO:Nat
 now:yo
 next:Option yo
 moved:Nat
 store:La_
 reads:Nat
 writes:Nat
structure Xv(size:Nat)(k:yo):Prop where
 fit:k.Fit
 least:k.least<=size
structure Vol.zeq(v:Vol):Prop where
 size:16<=v.size/\v.size<=4096
 zdO:1<=v.zdO/\v.zdO<=256
 len:v.store.length=v.size*v.zdO
 now:Xv v.size v.now
 next:∀k,v.next=some k->Xv v.size k/\v.moved<v.zdO
def least_le(k:yo):k.least<=16:=by cases k<;>simp[yo.least]
def Vol.zec(v:Vol)(n:Nat):yo:=match v.next with
 | some k=>if n<v.moved then k else v.now
 | none=>v.now
def Vol.zeq.zec{v:Vol}(h:v.zeq)(n:Nat):Xv v.size (v.zec n):=by
 unfold Vol.zec;split
 ·next k hk =>
  split
  ·exact(h.next k hk).1
  ·exact h.now
 ·exact h.now
def Vol.sec(v:Vol)(n:Nat):La_:=xG (v.zec n) (k9 n) (kf v.size v.store n) true
def Vol.zeq.zff{v:Vol}(h:v.zeq){n:Nat}(hn:n<v.zdO):(v.sec n).length=v.size:=by have eg:=ja h.len hn;unfold Vol.sec;rw[vl _ _ (by rw[eg];exact(h.zec n).least),eg]
def JJ(size:Nat)(k:yo)(st:La_):Nat->La_
 | 0=>st
 | n+1=>kK size k (JJ size k st n) n false
def Zl{size zdO:Nat}{k:yo}(hl:st.length=size*zdO)(hk:k.least<=size):∀n,n<=zdO->(JJ size k st n).length=st.length
 | 0,_=>rfl
 | n+1,h=>by
  have ih:=Zl hl hk n ae;show(kK _ _ _ _ _).length=_;rw[Zk (by rw[ih];exact hl) hk ae,ih]
def Vu{size zdO m:Nat}{k:yo}(hl:st.length=size*zdO)(hk:k.least<=size):∀n,n<=zdO->kf size (JJ size k st n) m=if m<n then xG k (k9 m) (kf size st m) false else kf size st m
 | 0,_=>by simp[JJ]
 | n+1,h=>by
  have ih:=Vu (m:=m) hl hk n ae;have ihn:=Vu (m:=n) hl hk n ae;show kf size (kK _ _ _ _ _) m=_;rw[Qv (by rw[Zl hl hk n (by omega)];exact hl) hk ae];by_cases e:m=n
  ·subst e;rw[if_pos rfl,if_pos ae,ihn,if_neg ae]
  ·rw[if_neg e,ih];by_cases h2:m<n
   ·rw[if_pos h2,if_pos ae]
   ·rw[if_neg h2,if_neg ae]
def zeA(alg:Int)(size zdO:Nat)(key:La_):Vol:=⟨alg,size,zdO,vS alg key,none,0,JJ size (vS alg key) (zg (size*zdO)) zdO,0,0⟩
def tj{size zdO n:Nat}(hn:n<zdO):kf size (zg (size*zdO)) n=zg size:=by have:=fits (size:=size) hn;unfold kf zg;rw[List.drop_replicate,List.take_replicate];congr 1;omega
def Yz(alg:Int)(key:La_){size:Nat}(h:16<=size):Xv size (vS alg key):=⟨Qq _ _,Nat.le_trans (least_le _) h⟩
def lq{alg:Int}{size zdO:Nat}{key:La_}(h1:16<=size/\size<=4096)(h2:1<=zdO/\zdO<=256):(zeA alg size zdO key).zeq :=
 ⟨h1,h2,by show(JJ _ _ _ _).length=_;rw[Zl (ze _) (Yz alg key h1.1).least _ (zab _),ze];rfl,Yz alg key h1.1,λk h=>by cases h⟩
def nK{alg:Int}{size zdO n:Nat}{key:La_}(h1:16<=size)(hn:n<zdO):(zeA alg size zdO key).sec n=zg size:=by show xG (vS alg key) (k9 n) (kf size (JJ _ _ _ _) n) true=_;rw[Vu (ze _) (Yz alg key h1).least _ (zab _),if_pos hn,tj hn];exact KU (Yz alg key h1).fit _ (m:=zg size) false (by rw[ze];exact(Yz alg key h1).least)
def Vol.put(v:Vol)(n:Nat)(b:La_):Vol:={ v with store:=kK v.size (v.zec n) (Qu v.store (n*v.size) b) n false,writes:=v.writes+1 }
def Vol.zeq.put{v:Vol}(h:v.zeq){n:Nat}{b:La_}(hn:n<v.zdO)(hb:b.length=v.size):(v.put n b).zeq:=by have eE:(Qu v.store (n*v.size) b).length=v.store.length:=Z7 (by rw[hb,h.len];exact fits hn);exact⟨h.size,h.zdO,by show(kK _ _ _ _ _).length=_;rw[Zk (by rw[eE];exact h.len) (h.zec n).least hn,eE];exact h.len,h.now,h.next⟩
def H8{v:Vol}(h:v.zeq){n m:Nat}{b:La_}(hn:n<v.zdO)(hb:b.length=v.size):kf v.size (v.put n b).store m=if m=n then xG (v.zec n) (k9 n) b false else kf v.size v.store m:=by
 have eE:(Qu v.store (n*v.size) b).length=v.store.length:=Z7 (by rw[hb,h.len];exact fits hn);show kf v.size (kK _ _ _ _ _) m=_;rw[Qv (by rw[eE];exact h.len) (h.zec n).least hn,lp h.len hb hn,if_pos rfl,lp h.len hb hn];split
 ·rfl
 ·rfl
def H9{v:Vol}(h:v.zeq){n m:Nat}{b:La_}(hn:n<v.zdO)(hb:b.length=v.size):(v.put n b).sec m=if m=n then b else v.sec m:=by
 show xG (v.zec m) (k9 m) (kf v.size (v.put n b).store m) true=_;rw[H8 h hn hb];by_cases ai:m=n
 ·subst ai;rw[if_pos rfl,if_pos rfl];exact KU (h.zec m).fit _ (m:=b) false (by rw[hb];exact(h.zec m).least)
 ·rw[if_neg ai,if_neg ai];rfl
def Vol.step(v:Vol)(k:yo):Vol :=
 let st:=kK v.size k (kK v.size v.now v.store v.moved true) v.moved false
 if v.moved+1=v.zdO then{ v with now:=k,next:=none,moved:=v.moved+1,store:=st } else{ v with next:=some k,moved:=v.moved+1,store:=st }
def uP{v:Vol}(h:v.zeq){k:yo}(hk:v.next=some k):(kK v.size v.now v.store v.moved true).length=v.size*v.zdO/\(kK v.size k (kK v.size v.now v.store v.moved true) v.moved false).length=v.size*v.zdO:=by have eh:=(h.next k hk).2;have ag:=Zk (back:=true) h.len h.now.least eh;rw[h.len] at ag;exact⟨ag,by rw[Zk ag (h.next k hk).1.least eh,ag]⟩
def Vol.zeq.step{v:Vol}(h:v.zeq){k:yo}(hk:v.next=some k):(v.step k).zeq:=by
 have eh:=(h.next k hk).2;have aR:=uP h hk;unfold Vol.step;split
 ·exact⟨h.size,h.zdO,aR.2,(h.next k hk).1,λk' h'=>by cases h'⟩
 ·next e=>exact⟨h.size,h.zdO,aR.2,h.now,λk' h'=>by cases h';exact⟨(h.next k hk).1,by show v.moved+1<v.zdO;omega⟩⟩
def D8{v:Vol}(h:v.zeq){k:yo}(hk:v.next=some k)(m:Nat):kf v.size (v.step k).store m=if m=v.moved then xG k (k9 m) (v.sec m) false else kf v.size v.store m:=by
 have eh:=(h.next k hk).2;have ai:(v.step k).store=kK v.size k (kK v.size v.now v.store v.moved true) v.moved false:=by unfold Vol.step;split<;>rfl
 rw[ai,Qv (uP h hk).1 (h.next k hk).1.least eh,Qv h.len h.now.least eh,Qv h.len h.now.least eh];by_cases ai:m=v.moved
 ·rw[if_pos ai,if_pos rfl,if_pos ai,ai];unfold Vol.sec Vol.zec;rw[hk];simp
 ·rw[if_neg ai,if_neg ai,if_neg ai]
def Zx(v:Vol)(k:yo):(v.step k).size=v.size/\(v.step k).zdO=v.zdO/\(v.step k).alg=v.alg/\(v.step k).reads=v.reads/\(v.step k).writes=v.writes:=by unfold Vol.step;split<;>exact⟨rfl,rfl,rfl,rfl,rfl⟩
def JK{v:Vol}(h:v.zeq){k:yo}(hk:v.next=some k){m:Nat}(hms:m<v.zdO):(v.step k).sec m=v.sec m:=by
 have eh:=(h.next k hk).2;have eI:=D8 h hk m;have eg:=h.zff hms;have az:(v.step k).zec m=if m<v.moved+1 then k else v.now:=by
  unfold Vol.step;split
  ·next e=>show k=_;rw[if_pos ae]
  ·show(if m<v.moved+1 then k else v.now)=_;rfl
 show xG ((v.step k).zec m) (k9 m) (kf (v.step k).size (v.step k).store m) true=_;rw[(Zx v k).1,eI,az];by_cases e:m=v.moved
 ·rw[if_pos e,if_pos ae];exact KU (h.next k hk).1.fit _ (m:=v.sec m) false (by rw[eg];exact(h.next k hk).1.least)
 ·rw[if_neg e];unfold Vol.sec Vol.zec;rw[hk];by_cases ag:m<v.moved
  ·rw[if_pos ae];simp[ag]
  ·rw[if_neg ae];simp[ag]
def Vol.zeP(v:Vol)(k:Nat)(x:UInt8):Vol:={ v with store:=v.store.set k (v.store.getD k 0^^^x) }
def Vol.zeq.zeP{v:Vol}(h:v.zeq)(k:Nat)(x:UInt8):(v.zeP k x).zeq :=
 ⟨h.size,h.zdO,by show(v.store.set _ _).length=_;rw[zav];exact h.len,h.now,h.next⟩
def Vol.begin'(v:Vol)(k:yo):Vol:={ v with next:=some k,moved:=0 }
def Vol.zeq.begin'{v:Vol}(h:v.zeq){k:yo}(hk:Xv v.size k):(v.begin' k).zeq :=
 ⟨h.size,h.zdO,h.len,h.now,λj e=>by cases e;exact⟨hk,h.zdO.1⟩⟩
def lr{v:Vol}(hn:v.next=none)(k:yo)(n:Nat):(v.begin' k).zec n=v.zec n:=by unfold Vol.zec Vol.begin';rw[hn];simp
def fE{v:Vol}(hn:v.next=none)(k:yo)(n:Nat):(v.begin' k).sec n=v.sec n:=by unfold Vol.sec;rw[lr hn];rfl
def fF{v:Vol}(k:yo):(v.step k).alg=v.alg/\(v.step k).size=v.size/\(v.step k).zdO=v.zdO/\(v.step k).moved=v.moved+1 /\
  (v.step k).next=(if v.moved+1=v.zdO then none else some k)/\(v.step k).now=(if v.moved+1=v.zdO then k else v.now):=by unfold Vol.step;split<;>simp
def xK(k:yo):Nat->Vol->Vol
 | 0,v=>v
 | j+1,v=>xK k j (v.step k)
def uQ{k:yo}:∀(j:Nat) {v:Vol},v.zeq->v.next=some k->v.moved+j<=v.zdO ->
  (xK k j v).zeq/\(xK k j v).size=v.size/\(xK k j v).zdO=v.zdO/\(xK k j v).moved=v.moved+j/\(∀m,m<v.zdO->(xK k j v).sec m=v.sec m) /\
   (0<j->(xK k j v).next=(if v.moved+j=v.zdO then none else some k)/\(xK k j v).now=(if v.moved+j=v.zdO then k else v.now))
 | 0,v,h,hn,hj=>⟨h,rfl,rfl,rfl,λ_ _=>rfl,λh=>absurd h ae⟩
 | j+1,v,h,hn,hj=>by
  obtain⟨f0,f1,f2,f3,f4,f5⟩:=fF (v:=v) k;by_cases hl:v.moved+1=v.zdO
  ·obtain rfl:j=0:=by omega
   rw[if_pos hl] at f4 f5;exact⟨h.step hn,f1,f2,f3,λm hm=>JK h hn hm,λ_=>by rw[if_pos hl,if_pos hl];exact⟨f4,f5⟩⟩
  ·rw[if_neg hl] at f4 f5;obtain⟨ie,oL,oM,oN,oO,oP⟩:=uQ j (h.step hn) f4 (by rw[f3,f2];omega);refine⟨ie,oL.trans f1,oM.trans f2,by show(xK k j (v.step k)).moved=_;rw[oN,f3];omega,λm hm=>?_,λ_=>?_⟩
   ·show(xK k j (v.step k)).sec m=_;rw[oO m (by rw[f2];exact hm),JK h hn hm]
   ·show(xK k j (v.step k)).next=_/\(xK k j (v.step k)).now=_;by_cases aA:0<j
    ·obtain⟨ai,aj⟩:=oP aA;rw[ai,aj,f3,f2,f5,show v.moved+1+j=v.moved+(j+1) by omega];exact aeU
    ·obtain rfl:j=0:=by omega
     show(v.step k).next=_/\(v.step k).now=_;rw[if_neg ae,if_neg ae];exact⟨f4,f5⟩
def Vol.zfp(v:Vol)(k:yo):Vol:=xK k v.zdO (v.begin' k)
def D9{v:Vol}(h:v.zeq)(hn:v.next=none){k:yo}(hk:Xv v.size k):(v.zfp k).zeq/\(v.zfp k).size=v.size/\(v.zfp k).zdO=v.zdO/\(v.zfp k).next=none/\(v.zfp k).now=k/\∀m,m<v.zdO->(v.zfp k).sec m=v.sec m:=by
 obtain⟨ie,oL,oM,oN,oO,oP⟩:=uQ (k:=k) v.zdO (h.begin' hk) rfl (by show 0+v.zdO<=v.zdO;omega);obtain⟨ai,aj⟩:=oP (by have:=h.zdO.1;omega);have aT:(v.begin' k).moved+v.zdO=(v.begin' k).zdO:=by show 0+v.zdO=v.zdO;omega
 rw[if_pos aT] at ai aj;exact⟨ie,oL,oM,ai,aj,λm hm=>(oO m hm).trans (fE hn k m)⟩
def Vol.has(v:Vol)(n:Int):Prop:=0<=n/\n<(v.zdO:Int)
instance (v:Vol)(n:Int):Decidable (v.has n):=by unfold Vol.has;infer_instance
def Vol.read(v:Vol)(n:Int):Vol×Int:=if v.has n then({ v with reads:=v.reads+1 },0) else(v,11)
def Vol.write(v:Vol)(n:Int)(b:La_):Vol×Int:=if v.has n then(if b.length=v.size then(v.put n.toNat b,0) else(v,4)) else(v,11)
def Vol.harm(v:Vol)(k:Int)(x:UInt8):Vol×Int:=if 0<=k/\k<((v.size*v.zdO:Nat):Int) then(v.zeP k.toNat x,0) else(v,11)
def Vol.start(v:Vol)(key:La_):Vol×Int:=match v.next with
 | some _=>(v,12)
 | none=>if zd6 v.alg key.length=0 then(v.begin' (vS v.alg key),0) else(v,(zd6 v.alg key.length:Nat))
def Vol.move(v:Vol):Vol×Int:=match v.next with
 | some k=>(v.step k,0)
 | none=>(v,12)
def Vol.all(v:Vol)(key:La_):Vol×Int:=match v.next with
 | some _=>(v,12)
 | none=>if zd6 v.alg key.length=0 then(v.zfp (vS v.alg key),0) else(v,(zd6 v.alg key.length:Nat))
def Vol.act(v:Vol)(kd:Nat)(n:Int)(b:La_)(x:UInt8):Vol×Int:=match kd with
 | 0=>v.write n b
 | 3=>v.harm n x
 | 4=>v.start b
 | 5=>v.move
 | 6=>v.all b
 | _=>v.read n
def Vol.zeq.count{v:Vol}(h:v.zeq)(r w:Nat):({ v with reads:=r,writes:=w }:Vol).zeq:=⟨h.size,h.zdO,h.len,h.now,h.next⟩
def Form(v v':Vol):Prop:=v'.alg=v.alg/\v'.size=v.size/\v'.zdO=v.zdO
def Form.refl(v:Vol):Form v v:=⟨rfl,rfl,rfl⟩
def Form.trans{u v w:Vol}(h:Form u v)(k:Form v w):Form u w:=⟨k.1.trans h.1,k.2.1.trans h.2.1,k.2.2.trans h.2.2⟩
def Fa(v:Vol)(n:Nat)(b:La_):Form v (v.put n b):=⟨rfl,rfl,rfl⟩
def lu(v:Vol)(k:Nat)(x:UInt8):Form v (v.zeP k x):=⟨rfl,rfl,rfl⟩
def uR(k:yo):∀(j:Nat)(v:Vol),Form v (xK k j v)/\(xK k j v).reads=v.reads/\(xK k j v).writes=v.writes
 | 0,v=>⟨Form.refl _,rfl,rfl⟩
 | j+1,v=>by
  obtain⟨h1,h2,h3⟩:=uR k j (v.step k);obtain⟨e1,e2,e3,e4,e5⟩:=Zx v k;exact⟨Form.trans (v:=v.step k) ⟨e3,e1,e2⟩ h1,h2.trans e4,h3.trans e5⟩
def tk(v:Vol)(k:yo):Form v (v.zfp k)/\(v.zfp k).reads=v.reads/\(v.zfp k).writes=v.writes:=by obtain⟨ag,aM,ij⟩:=uR k v.zdO (v.begin' k);exact⟨Form.trans (v:=v.begin' k) ⟨rfl,rfl,rfl⟩ ag,aM,ij⟩
structure Did(v:Vol)(kd:Nat)(n:Int)(b:La_)(r:Vol×Int):Prop where
 zei:r.1.zeq
 form:Form v r.1
 reads:r.1.reads<=v.reads+1
 writes:r.1.writes<=v.writes+1
 off:r.2≠0->r.1=v
 secs:kd≠3->∀m,m<v.zdO->r.1.sec m=if kd=0/\r.2=0/\n=(m:Int) then b else v.sec m
 bytes:kd=0->r.2=0->v.has n/\b.length=v.size
 next:kd<4\/6<kd->r.1.next=v.next/\r.1.now=v.now
def vo{v:Vol}(h:v.zeq)(kd:Nat)(n:Int)(b:La_){e:Int}(he:e≠0):Did v kd n b (v,e) :=
 ⟨h,Form.refl _,zaV _,zaV _,λ_=>rfl,λ_ m _=>by rw[if_neg (λhh=>he hh.2.1)],λ_ hh=>absurd hh he,λ_=>⟨rfl,rfl⟩⟩
def qK{v:Vol}(h:v.zeq)(kd:Nat)(n:Int)(b:La_)(x:UInt8):Did v kd n b (v.act kd n b x):=by
 have oQ:kd≠0->Did v kd n b (v.read n):=λhk=>by
  unfold Vol.read;split
  ·exact⟨h.count _ _,⟨rfl,rfl,rfl⟩,zab _,zaV _,λhh=>absurd rfl hh,λ_ m _=>by rw[if_neg (λhh=>hk hh.1)];rfl,λhh=>absurd hh hk,λ_=>⟨rfl,rfl⟩⟩
  ·exact vo h _ _ _ bd
 have oR:kd=4->Did v kd n b (v.start b):=λhk=>by
  unfold Vol.start;split
  ·exact vo h _ _ _ bd
  ·next hn =>
   split
   ·exact⟨h.begin' (Yz _ _ h.size.1),⟨rfl,rfl,rfl⟩,zaV _,zaV _,λhh=>absurd rfl hh,λ_ m _=>by rw[if_neg (λhh=>by omega)];exact fE hn _ _,λhh=>by omega,λhh=>by omega⟩
   ·next hw=>exact vo h _ _ _ ae
 have oS:kd=5->Did v kd n b v.move:=λhk=>by
  unfold Vol.move;split
  ·next k hn =>
   obtain⟨ai,aj,ak,an,iB⟩:=Zx v k;exact⟨h.step hn,⟨ak,ai,aj⟩,by rw[an];omega,by rw[iB];omega,λhh=>absurd rfl hh,λ_ m hm=>by rw[if_neg (λhh=>by omega)];exact JK h hn hm,λhh=>by omega,λhh=>by omega⟩
  ·exact vo h _ _ _ bd
 have oT:kd=6->Did v kd n b (v.all b):=λhk=>by
  unfold Vol.all;split
  ·exact vo h _ _ _ bd
  ·next hn =>
   split
   ·obtain⟨ie,oL,oM,oN,oO,oP⟩:=D9 h hn (Yz v.alg b h.size.1);obtain⟨ib,ic,iw⟩:=tk v (vS v.alg b);exact⟨ie,ib,by rw[ic];omega,by rw[iw];omega,λhh=>absurd rfl hh,λ_ m hm=>by rw[if_neg (λhh=>by omega)];exact oP m hm,λhh=>by omega,λhh=>by omega⟩
   ·next hw=>exact vo h _ _ _ ae
 have oU:kd=0->Did v kd n b (v.write n b):=λhk=>by
  unfold Vol.write;split
  ·next hn =>
   split
   ·next hb =>
    have oV:n.toNat<v.zdO:=by unfold Vol.has at hn;omega
    refine⟨h.put oV hb,Fa _ _ _,zaV _,zab _,λhh=>absurd rfl hh,λ_ m hm=>?_,λ_ _=>⟨hn,hb⟩,λ_=>⟨rfl,rfl⟩⟩;show(v.put n.toNat b).sec m=_;rw[H9 h oV hb];unfold Vol.has at hn;by_cases e:m=n.toNat
    ·rw[if_pos e,if_pos ⟨hk,rfl,ae⟩]
    ·rw[if_neg e,if_neg (λhh=>e ae)]
   ·exact vo h _ _ _ bd
  ·exact vo h _ _ _ bd
 have hm:kd=3->Did v kd n b (v.harm n x):=λhk=>by
  unfold Vol.harm;split
  ·exact⟨h.zeP _ _,lu _ _ _,zaV _,zaV _,λhh=>absurd rfl hh,λhh=>absurd hk hh,λhh=>by omega,λ_=>⟨rfl,rfl⟩⟩
  ·exact vo h _ _ _ bd
 unfold Vol.act;split
 ·exact oU rfl
 ·exact hm rfl
 ·exact oR rfl
 ·exact oS rfl
 ·exact oT rfl
 ·next h0 _ _ _ _=>exact oQ (λe=>h0 e)
def tm(b:La_):La_:=zw (zae b.length)++b
def zeN(out:La_)(l:List (La_)):La_:=l.foldl (λs b=>s++tm b) out
def JL(t:Nat)(zdR:La_)(ad:List (La_)):La_:=zeN (zeN (zaq t::zw (zae ad.length)) [zdR]) ad
def vq(l:List (La_)):∀out,(zeN out l).length=out.length+(l.map λb=>8+b.length).sum:=by
 induction l with
 | nil=>intro out;simp[zeN]
 | cons b r ih =>
  intro out;show(zeN (out++tm b) r).length=_;rw[ih,zac,tm,zac,zy];simp only[zca,List.sum_cons];omega
def XW(k:yo)(t:Nat)(zdR:La_)(ad:List (La_))(m:La_):La_ :=
 match k with
 | .aez p=>Z4 p (xZ t zdR ad) t m
 | k=>xG k (JL t zdR ad) (m++zg t) false
def Fb(k:yo)(zdY:La_)(t:Nat)(b:La_):Option (La_) :=
 if b.length<t then none else if b.length<k.least then none
 else if(xG k zdY b true).drop (b.length-t)=zg t then some ((xG k zdY b true).take (b.length-t)) else none
def JM(k:yo)(t:Nat)(zdR:La_)(ad:List (La_))(b:La_):Option (La_) :=
 match k with
 | .aez p=>Qh p (xZ t zdR ad) t b
 | k=>Fb k (JL t zdR ad) t b
def yo.room(k:yo)(t n:Nat):Prop:=k.alg=3\/k.least<=n+t
def MR{k:yo}(hk:k.Fit)(zdY:La_)(t:Nat)(m:La_)(h:k.least<=m.length+t):Fb k zdY t (xG k zdY (m++zg t) false)=some m:=by
 have aR:(m++zg t).length=m.length+t:=by rw[zac,ze]
 have aF:=KU hk zdY (m:=m++zg t) false (by rw[aR];exact h);have aD:=vl (k:=k) zdY (m:=m++zg t) false (by rw[aR];exact h);rw[aR] at aD;unfold Fb;rw[aD,if_neg ae,if_neg ae,show m.length+t-t=m.length by omega];have aF:xG k zdY (xG k zdY (m++zg t) false) true=m++zg t:=aF;rw[aF,List.drop_left,List.take_left,if_pos rfl]
def M3{k:yo}(t:Nat)(zdR:La_)(ad:List (La_)){m:La_}(h:k.room t m.length):(XW k t zdR ad m).length=m.length+t:=by
 cases k with
 | aez p=>exact Jt _ _ _ _
 | adi k =>
  have h:16<=m.length+t:=h.elim (λh=>absurd h (by simp[yo.alg])) id;have ai:XW (.adi k) t zdR ad m=xG (.adi k) (JL t zdR ad) (m++zg t) false:=rfl;rw[ai];rw[vl _ _ (by rw[zac,ze];exact h),zac,ze]
 | hct k =>
  have h:16<=m.length+t:=h.elim (λh=>absurd h (by simp[yo.alg])) id;have ai:XW (.hct k) t zdR ad m=xG (.hct k) (JL t zdR ad) (m++zg t) false:=rfl;rw[ai];rw[vl _ _ (by rw[zac,ze];exact h),zac,ze]
def Nd{k:yo}(hk:k.Fit)(t:Nat)(zdR:La_)(ad:List (La_)){m:La_}(h:k.room t m.length):JM k t zdR ad (XW k t zdR ad m)=some m:=by
 cases k with
 | aez p=>exact BJ _ _ _ _
 | adi k=>exact MR hk _ _ _ (h.elim (λh=>absurd h (by simp[yo.alg])) id)
 | hct k=>exact MR hk _ _ _ (h.elim (λh=>absurd h (by simp[yo.alg])) id)
structure yN where
 hdr:Hdr
 vol:Option Vol
 nam:Option (yo×Nat)
 cip:Option yo
def zee:yN:=⟨KW,none,none,none⟩
abbrev Tld:=Int×Int×La_
def vT(alg size secs:Int)(kn:Nat):Int:=if size<16\/4096<size then 4 else if secs<1\/256<secs then 11 else(zd6 alg kn:Nat)
def kS(s:yN)(x:Cmd)(key:La_):yN×Int :=
 if vT x.a x.n x.m key.length=0 then({ s with vol:=some (zeA x.a x.n.toNat x.m.toNat key) },0) else(s,vT x.a x.n x.m key.length)
def wV(v:Vol)(x:Cmd):Vol×Tld :=
 if x.kind=2 then((v.write x.n x.b).1,((v.write x.n x.b).2,0,[]))
 else if x.kind=3 then(if v.has x.n then((v.read x.n).1,(0,0,v.sec x.n.toNat)) else(v,(11,0,[])))
 else if x.kind=4 then(if v.has x.n then(v,(0,0,kf v.size v.store x.n.toNat)) else(v,(11,0,[])))
 else if x.kind=5 then((v.harm x.n (zaq x.m.toNat)).1,((v.harm x.n (zaq x.m.toNat)).2,0,[]))
 else if x.kind=6 then((v.start x.key).1,((v.start x.key).2,0,[]))
 else if x.kind=7 then(match v.next with
  | some k=>(v.step k,(0,((v.zdO-v.moved-1:Nat):Int),[]))
  | none=>(v,(12,0,[])))
 else((v.all x.key).1,((v.all x.key).2,0,[]))
def z6(s:yN)(x:Cmd):yN×Tld :=
 if x.kind=1 then((kS s x x.key).1,((kS s x x.key).2,0,[]))
 else if x.kind=5/\(x.m<0\/255<x.m) then(s,(21,0,[]))
 else match s.vol with
  | none=>(s,(2,0,[]))
  | some v=>({ s with vol:=some (wV v x).1 },(wV v x).2)
def ju(s:yN)(x:Cmd):yN×Tld :=
 if x.kind=9 then
  (if zd6 x.a x.key.length≠0 then(s,(((zd6 x.a x.key.length:Nat):Int),0,[]))
  else if x.n=16\/x.n=32\/x.n=64 then({ s with nam:=some (vS x.a x.key,x.n.toNat) },(0,0,[])) else(s,(4,0,[])))
 else if x.n<0 then(s,(21,0,[]))
 else match s.nam with
  | none=>(s,(2,0,[]))
  | some (k,pad) =>
   if x.kind=10 then(s,((MQ k pad (zae x.n.toNat) x.name).2,0,(MQ k pad (zae x.n.toNat) x.name).1))
   else(s,((nG k pad (zae x.n.toNat) x.name).2,0,(nG k pad (zae x.n.toNat) x.name).1))
def adB(x:Cmd):List (La_):=if x.m=1 then[x.name] else[]
def qe(s:yN)(x:Cmd):yN×Tld :=
 if x.kind=12 then
  (if zd6 x.a x.key.length=0 then({ s with cip:=some (vS x.a x.key) },(0,0,[])) else(s,(((zd6 x.a x.key.length:Nat):Int),0,[])))
 else if x.m≠0/\x.m≠1 then(s,(21,0,[]))
 else match s.cip with
  | none=>(s,(2,0,[]))
  | some k =>
   if ¬(0<=x.n/\x.n<=16) then(s,(4,0,[]))
   else if x.kind=13 then(if k.alg=3\/k.least<=x.b.length+x.n.toNat then(s,(0,0,XW k x.n.toNat x.key (adB x) x.b)) else(s,(7,0,[])))
   else match JM k x.n.toNat x.key (adB x) x.b with
    | some m=>(s,(0,0,m))
    | none=>(s,(9,0,[]))
def qW(b:La_)(s:Hdr):La_×Int×Int :=
 if b.length=0\/128<b.length then([],0,2) else match nH b s with
  | some (m,n)=>(m,(n:Int),0)
  | none=>([],0,17)
def kg(s:yN)(x:Cmd):yN×Tld :=
 if x.kind=15 then({ s with hdr:=Qt s.hdr x.n x.key x.b },(Kc x.n x.key x.b,0,[]))
 else if x.kind=16 then({ s with hdr:=ZP s.hdr x.n },(Vt x.n,0,[]))
 else if x.kind=17 then(s,((qW x.key s.hdr).2.2,(qW x.key s.hdr).2.1,(qW x.key s.hdr).1))
 else if(qW x.key s.hdr).2.2≠0 then(s,((qW x.key s.hdr).2.2,0,[]))
 else if(kS s x (qW x.key s.hdr).1).2≠0 then(s,((kS s x (qW x.key s.hdr).1).2,0,[]))
 else((kS s x (qW x.key s.hdr).1).1,(0,(qW x.key s.hdr).2.1,[]))
def do1(s:yN)(x:Cmd):yN×Tld :=
 if x.kind<1\/18<x.kind then(s,(22,0,[]))
 else if x.kind<=8 then z6 s x
 else if x.kind<=11 then ju s x
 else if x.kind<=14 then qe s x
 else kg s x
def doL:yN->List Cmd->yN×List Tld
 | s,[]=>(s,[])
 | s,x::r=>((doL (do1 s x).1 r).1,(do1 s x).2::(doL (do1 s x).1 r).2)
def nL:∀(l:List Cmd)(s:yN)(x:Cmd),doL s (l++[x])=((do1 (doL s l).1 x).1,(doL s l).2++[(do1 (doL s l).1 x).2])
 | [],s,x=>rfl
 | y::r,s,x=>by simp only[zbq,doL,nL r]
structure yN.zeq(s:yN):Prop where
 hdr:a0v s.hdr
 vol:∀v,s.vol=some v->v.zeq
 nam:∀k p,s.nam=some (k,p)->k.Fit/\Pad p
 cip:∀k,s.cip=some k->k.Fit
def uS:zee.zeq:=⟨a0v.empty,λ_ h=>ds,λ_ _ h=>ds,λ_ h=>ds⟩
def V9{alg size secs:Int}{kn:Nat}(h:vT alg size secs kn=0):∃sz sc:Nat,size=(sz:Int)/\secs=(sc:Int)/\(16<=sz/\sz<=4096)/\(1<=sc/\sc<=256)/\zd6 alg kn=0:=by
 unfold vT at h;split at h
 ·cases h
 ·split at h
  ·cases h
  ·exact⟨size.toNat,secs.toNat,ae,ae,ae,ae,ae⟩
def Fc(s:yN)(x:Cmd)(key:La_)(h:(kS s x key).2≠0):(kS s x key).1=s:=by
 unfold kS at*;split
 ·next e=>rw[if_pos e] at h;exact absurd rfl h
 ·rfl
def Vv{s:yN}(hs:s.zeq)(x:Cmd)(key:La_):(kS s x key).1.zeq:=by
 unfold kS;split
 ·next e =>
  obtain⟨oW,oX,ai,aj,ag,aM,ij⟩:=V9 e;refine⟨hs.hdr,λv hv=>?_,hs.nam,hs.cip⟩;cases hv;rw[ai,aj];exact lq ag aM
 ·exact hs
def Ny{v:Vol}(hv:v.zeq)(x:Cmd)(h:(wV v x).2.1≠0):(wV v x).1=v:=by
 unfold wV at*;repeat' split
 all_goals(simp only[*,if_true,if_false] at h)
 ·exact(qK hv 0 x.n x.b 0).off h
 ·exact absurd rfl h
 ·rfl
 ·rfl
 ·rfl
 ·exact(qK hv 3 x.n x.b _).off h
 ·exact(qK hv 4 x.n x.key 0).off h
 ·exact absurd rfl h
 ·rfl
 ·exact(qK hv 6 x.n x.key 0).off h
def B1{v:Vol}(hv:v.zeq)(x:Cmd):(wV v x).1.zeq:=by
 unfold wV;repeat' split
 ·exact(qK hv 0 x.n x.b 0).zei
 ·exact(qK hv 2 x.n x.b 0).zei
 ·exact hv
 ·exact hv
 ·exact hv
 ·exact(qK hv 3 x.n x.b _).zei
 ·exact(qK hv 4 x.n x.key 0).zei
 ·next k e=>exact hv.step e
 ·exact hv
 ·exact(qK hv 6 x.n x.key 0).zei
def NG{s:yN}(hs:s.zeq)(x:Cmd)(h:(do1 s x).2.1≠0):(do1 s x).1=s:=by
 unfold do1 at*;split
 ·rfl
 ·next h0 =>
  rw[if_neg h0] at h;split
  ·next h1 =>
   rw[if_pos h1] at h;unfold z6 at*;split
   ·next e=>rw[if_pos e] at h;exact Fc s x x.key h
   ·next e =>
    rw[if_neg e] at h;split
    ·rfl
    ·next e2 =>
     rw[if_neg e2] at h;cases hv:s.vol with
     | none=>rfl
     | some v =>
      rw[hv] at h;simp only at h |-;rw[Ny (hs.vol v hv) x h,<-hv]
  ·next h1 =>
   rw[if_neg h1] at h;split
   ·unfold ju;next h2 =>
    rw[if_pos h2] at h;unfold ju at h;repeat' split
    all_goals first|rfl|(simp only[*,if_true,if_false,ne_eq,not_true_eq_false,not_false_eq_true] at h)
   ·next h2 =>
    rw[if_neg h2] at h;split
    ·next h3 =>
     rw[if_pos h3] at h;unfold qe at*;repeat' split
     all_goals first|rfl|(simp only[*,if_true,if_false,ne_eq,not_true_eq_false,not_false_eq_true] at h)
    ·next h3 =>
     rw[if_neg h3] at h;unfold kg at*;split
     ·next e =>
      rw[if_pos e] at h;show({ s with hdr:=Qt s.hdr x.n x.key x.b }:yN)=s;unfold Qt;rw[if_neg h]
     ·next e =>
      rw[if_neg e] at h;split
      ·next e1 =>
       rw[if_pos e1] at h;show({ s with hdr:=ZP s.hdr x.n }:yN)=s;unfold ZP;unfold Vt at h;split
       ·rfl
       ·next e2=>rw[if_neg e2] at h;exact absurd rfl h
      ·next e1 =>
       rw[if_neg e1] at h;split
       ·rfl
       ·next e2 =>
        rw[if_neg e2] at h;split
        ·rfl
        ·next e3 =>
         rw[if_neg e3] at h;split
         ·rfl
         ·next e4=>rw[if_neg e4] at h;exact absurd rfl h
def Fe{s:yN}(hs:s.zeq)(x:Cmd):(do1 s x).1.zeq:=by
 unfold do1;split
 ·exact hs
 ·split
  ·unfold z6;split
   ·exact Vv hs x _
   ·split
    ·exact hs
    ·cases hv:s.vol with
     | none=>exact hs
     | some v=>exact⟨hs.hdr,λv' h=>by cases h;exact B1 (hs.vol v hv) x,hs.nam,hs.cip⟩
  ·split
   ·unfold ju;split
    ·split
     ·exact hs
     ·split
      ·next e=>exact⟨hs.hdr,hs.vol,λk p h=>by cases h;exact⟨Qq _ _,by unfold Pad;omega⟩,hs.cip⟩
      ·exact hs
    ·split
     ·exact hs
     ·cases s.nam with
      | none=>exact hs
      | some kp=>obtain⟨k,p⟩:=kp;simp only;split<;>exact hs
   ·split
    ·unfold qe;split
     ·split
      ·exact⟨hs.hdr,hs.vol,hs.nam,λk h=>by cases h;exact Qq _ _⟩
      ·exact hs
     ·split
      ·exact hs
      ·cases s.cip with
       | none=>exact hs
       | some k =>
        simp only;split
        ·exact hs
        ·split
         ·split<;>exact hs
         ·split<;>exact hs
    ·unfold kg;repeat' split
     ·exact⟨hs.hdr.lay _ _ _,hs.vol,hs.nam,hs.cip⟩
     ·refine⟨?_,hs.vol,hs.nam,hs.cip⟩;show a0v (ZP s.hdr x.n);unfold ZP;split
      ·exact hs.hdr
      ·exact hs.hdr.set _ (.inl rfl)
     ·exact hs
     ·exact hs
     ·exact hs
     ·exact Vv hs x _
def bU:Array Value->Sem Value:=λargs=>do
 let(x,y,b) <-Extern.MathBitsCarry.three "Sub64" args
 pure (Extern.MathBitsCarry.pair ((x+Extern.MathBitsCarry.m64-y-b)%Extern.MathBitsCarry.m64) (if x<y+b then 1 else 0))
def Cn(x y k:Nat)(hk:k<=1)(w:World):(bU #[.int .u64 x,.int .u64 y,.int .u64 (k:Int)]).run P w =
   .ok (.tuple #[.int .u64 ((x+18446744073709551616-y-k)%18446744073709551616:Nat),.int .u64 ((if x<y+k then 1 else 0:Nat):Int)]) w:=by have:k=0\/k=1:=ae;rcases this with rfl|rfl<;>rfl
def Ls(p q:UInt64×UInt64):(zes p q).1.toNat=(p.1.toNat+q.1.toNat)%18446744073709551616:=by unfold zes;rw[UW];unfold nat;omega
def Lt(p q:UInt64×UInt64):(zes p q).2.toNat=(p.2.toNat+q.2.toNat+(p.1.toNat+q.1.toNat)/18446744073709551616)%18446744073709551616:=by unfold zes;rw[UX];unfold nat;omega
def FK(p q:UInt64×UInt64):(q9 p q).1.toNat=(p.1.toNat+18446744073709551616-q.1.toNat)%18446744073709551616:=by have ag:=p.1.toNat_lt;have ag:=q.1.toNat_lt;have ag:=p.2.toNat_lt;have ag:=q.2.toNat_lt;unfold q9;rw[UW];unfold nat;omega
def FL(p q:UInt64×UInt64):(q9 p q).2.toNat=(p.2.toNat+18446744073709551616-q.2.toNat-(if p.1.toNat<q.1.toNat then 1 else 0))%18446744073709551616:=by have ag:=p.1.toNat_lt;have ag:=q.1.toNat_lt;have ag:=p.2.toNat_lt;have ag:=q.2.toNat_lt;unfold q9;rw[UX];unfold nat;split<;>omega
section
attribute [local irreducible] zA zG zH zE
def zW(p:UInt64×UInt64):Lb_:=[L p.1,L p.2]
def yb(p:UInt64×UInt64):∀v∈zW p,v.oneCell'=true:=by intro v aL;simp[zW] at aL;rcases aL with rfl|rfl<;>rfl
def pI(x y k:Nat)(hk:k<=1)(w:World):(callFunc 184 #[.int .u64 x,.int .u64 y,.int .u64 k]).run pgm w=.ok (.value (.tuple #[.int .u64 ((x+y+k)%18446744073709551616:Nat),.int .u64 ((x+y+k)/18446744073709551616:Nat)])) w:=by rw[run_callFunc_extern func184 e0 e0 e0 (e:=add64Entry) e0,run_add64 x y k ae ae ae ae];simp
def pJ(x y k:Nat)(hk:k<=1)(w:World):(callFunc 226 #[.int .u64 x,.int .u64 y,.int .u64 k]).run pgm w=.ok (.value (.tuple #[.int .u64 ((x+18446744073709551616-y-k)%18446744073709551616:Nat),.int .u64 ((if x<y+k then 1 else 0:Nat):Int)])) w:=by rw[run_callFunc_extern func226 e0 e0 e0 (e:=bU) e0,Cn x y k hk];rfl
def bV(p q:UInt64×UInt64)(w:World):C_b 171 #[.agg (zW p).toArray,.agg (zW q).toArray] w (.agg (zW (zes p q)).toArray):=by
 obtain⟨iy,az⟩:=n_ ((p.1.toNat+q.1.toNat)/18446744073709551616);have AV:iy<=1:=by have:=p.1.toNat_lt;have:=q.1.toNat_lt;omega
 obtain⟨aN,ah⟩:=n_ ((p.2.toNat+q.2.toNat+iy)/18446744073709551616);have eI:∀w:World,(callFunc 184 #[.int .u64 p.1.toNat,.int .u64 q.1.toNat,.int .u64 0]).run pgm w=.ok (.value (.tuple #[.int .u64 (zes p q).1.toNat,.int .u64 iy])) w:=λw=>by
  have:=pI p.1.toNat q.1.toNat 0 ae w;rw[zci,<-Ls,<-az] at this;exact this
 have PS:∀w:World,(callFunc 184 #[.int .u64 p.2.toNat,.int .u64 q.2.toNat,.int .u64 iy]).run pgm w=.ok (.value (.tuple #[.int .u64 (zes p q).2.toNat,.int .u64 aN])) w:=λw=>by
  have:=pI p.2.toNat q.2.toNat iy AV w;rw[<-ah,az,<-Lt,<-az] at this;exact this
 obtain⟨ep,aT⟩:=n_ (zes p q);rw[<-aT] at eI PS |-;refine aeC ?_;intro EW;clear az ah aT;go_enter func171,ntmps171;exact arS
def fX(p q:UInt64×UInt64)(w:World):C_b 220 #[.agg (zW p).toArray,.agg (zW q).toArray] w (.agg (zW (q9 p q)).toArray):=by
 obtain⟨c,az⟩:∃c:Nat,c=(if p.1.toNat<q.1.toNat then 1 else 0):=⟨_,rfl⟩
 have AV:c<=1:=by rw[az];split<;>omega
 obtain⟨d,ah⟩:∃d:Nat,d=(if p.2.toNat<q.2.toNat+c then 1 else 0):=⟨_,rfl⟩
 have eI:∀w:World,(callFunc 226 #[.int .u64 p.1.toNat,.int .u64 q.1.toNat,.int .u64 0]).run pgm w=.ok (.value (.tuple #[.int .u64 (q9 p q).1.toNat,.int .u64 c])) w:=λw=>by
  have:=pJ p.1.toNat q.1.toNat 0 ae w;simp only[Nat.sub_zero,zci] at this;rw[<-FK,<-az] at this;exact this
 have PS:∀w:World,(callFunc 226 #[.int .u64 p.2.toNat,.int .u64 q.2.toNat,.int .u64 c]).run pgm w=.ok (.value (.tuple #[.int .u64 (q9 p q).2.toNat,.int .u64 d])) w:=λw=>by
  have:=pJ p.2.toNat q.2.toNat c AV w;rw[<-ah,az,<-FL,<-az] at this;exact this
 obtain⟨ep,aT⟩:=n_ (q9 p q);rw[<-aT] at eI PS |-;refine aeC ?_;intro EW;clear az ah aT;go_enter func220,ntmps220;exact arS
end
section
attribute [local irreducible] zA zG zH zE xc
def xx:Row pgm 230 16:=⟨e0,e0⟩
def lR{fn:Func}{t u v x:Tmp}(h:fn.results=#[.tmp t,.tmp u,.tmp v,.tmp x])(tmps:Array Value)(P:Program)(w:World):(results fn tmps).run P w=.ok (.tuple #[tmps.getD t undef,tmps.getD u undef,tmps.getD v undef,tmps.getD x undef]) w:=by simp[results,h]
def FM(n:Nat):Prop:=n=16\/n=12\/n=8\/n=7
def FN(x:UInt32)(n:Nat)(w:World)(hn:FM n):C_e 193 #[W x,.int .i64 n] w (W (UQ x n)):=by
 rcases hn with rfl|rfl|rfl|rfl
 ·show Calls _ _ #[W x,.int .i64 16] w _;have aT:bits .and .u64 16 31=16:=bd;exact as2
 ·show Calls _ _ #[W x,.int .i64 12] w _;have aT:bits .and .u64 12 31=12:=bd;exact as2
 ·show Calls _ _ #[W x,.int .i64 8] w _;have aT:bits .and .u64 8 31=8:=bd;exact as2
 ·show Calls _ _ #[W x,.int .i64 7] w _;have aT:bits .and .u64 7 31=7:=bd;exact as2
def WT(a b d:UInt32)(n:Nat)(w:World)(hn:FM n):C_e 190 #[W a,W b,W d,.int .i64 n] w (.tuple #[W (wo a b),W (UQ (xD d (wo a b)) n)]):=by have Nl:=zc hn;clear hn;go_enter func190,ntmps190;go_wp2_with fail;refine(FN _ n _ Nl).mono ?_;exact an3
def FO(f:gR):Array Value:=#[W f.a,W f.b,W f.c,W f.d]
def tO(f:gR)(w:World):Ca_ 183 (FO f) w λe w'=>e=.returned (.tuple (FO (quarter f)))/\w=w':=by
 obtain⟨eT,ax,iy,aN⟩:=f;show Calls _ _ #[W eT,W ax,W iy,W aN] w _;obtain⟨ie,ag⟩:=n_ (q1 ⟨eT,ax,iy,aN⟩ 16);obtain⟨oL,aM⟩:=n_ (q2 ie 12);obtain⟨oM,ij⟩:=n_ (q1 oL 8);obtain⟨oN,ik⟩:=n_ (q2 oM 7);have EM:=ha_ (quarter ⟨eT,ax,iy,aN⟩=oN/\True) ⟨by rw[ik,ij,aM,ag];rfl,trivial⟩;obtain⟨eU,om,A5,eK⟩:=ie;obtain⟨eV,oq,P6,Ed⟩:=oL;obtain⟨eW,ot,Sz,a4S⟩:=oM;obtain⟨eX,ov,SA,a4T⟩:=oN;simp only[q1,q2,gR.mk.injEq] at ag aM ij ik;refine ajU ag ?_;intro A6;refine ajU aM ?_;intro Pw;refine ajU ij ?_;intro Py;refine ajU ik ?_;intro a4U;clear ag aM ij ik;go_enter func183,ntmps183;go_wp2_with fail;refine(WT eT ax aN 16 _ (.inl rfl)).mono ?_;rintro e A4⟨rfl,rfl⟩;rw[<-A6.1.2.2.2,<-A6.1.1];go_wp2_with fail;refine(WT iy eK ax 12 _ (.inr (.inl rfl))).mono ?_;rintro e A4⟨rfl,rfl⟩;obtain⟨rfl,rfl⟩:om=ax/\A5=iy:=⟨A6.1.2.1,A6.1.2.2.1⟩
 rw[<-Pw.1.2.1,<-Pw.1.2.2.1];go_wp2_with fail;obtain⟨rfl,rfl⟩:eV=eU/\Ed=eK:=⟨Pw.1.1,Pw.1.2.2.2⟩
 refine(WT eV oq Ed 8 _ (.inr (.inr (.inl rfl)))).mono ?_;rintro e A4⟨rfl,rfl⟩;rw[<-Py.1.2.2.2,<-Py.1.1];go_wp2_with fail;obtain⟨rfl,rfl⟩:ot=oq/\Sz=P6:=⟨Py.1.2.1,Py.1.2.2.1⟩
 refine(WT Sz a4S ot 7 _ (.inr (.inr (.inr rfl)))).mono ?_;rintro e A4⟨rfl,rfl⟩;rw[<-a4U.1.2.1,<-a4U.1.2.2.1];go_wp2
 (try simp only[Exit.inBlock,Exit.then])
 refine bodyPost_ret (lR rfl _ _ _) rfl ?_;rw[EM.1];obtain⟨rfl,rfl⟩:eX=eW/\a4T=a4S:=⟨a4U.1.1,a4U.1.2.2.2⟩
 exact aeU
instance (w:World):Nonempty (zO (λu v=>Below u.heap.size u v) w):=⟨⟨w,Below.refl _ _⟩⟩
def bW(pv y:Nat)(vs:List UInt32)(w:World)(hb:Blk w pv (vs.map W) 230)(hl:vs.length=16)(hy:y<2):Ca_ 168 #[.pointer (some ⟨pv,0,none⟩),.int .i64 y] w λe w'=>(∃v,e=.returned v)/\Blk w' pv ((vd y vs 4).map W) 230/\Only pv w w':=by
 have uX:=zc hb;have A0:=t_ hl;have I9:=zc (Only.refl pv w);have aZ:IntKind.i64.wrap (2*(y:Int))=2*(y:Int):=IntWalk.i64_in _ ae;have aZ:IntKind.i64.wrap (3*(y:Int))=3*(y:Int):=IntWalk.i64_in _ ae;clear hb hl;go_enter func168,ntmps168;go_wp2;go_loopw [8] (λc wr=>∃(i:Nat),i<=4/\c=.int .i64 i/\Hid (Blk wr pv ((vd y vs i).map W) 230)/\Hid (Only pv w wr)) (λc _=>4-(intOf c).toNat);case atStart=>exact⟨0,ae,rfl,uX,I9⟩
 case round =>
  clear uX I9;obtain⟨i,aO,rfl,uX,I9⟩:=hrel;by_cases aB:i<4
  ·obtain⟨r1,eI⟩:=n_ ((i+y)%4);obtain⟨r2,PS⟩:=n_ ((i+2*y)%4);obtain⟨r3,PT⟩:=n_ ((i+3*y)%4);obtain⟨b1,aF⟩:=n_ (4+r1);obtain⟨b2,hb2⟩:=n_ (8+r2);obtain⟨b3,Ew⟩:=n_ (12+r3);have ai:((i:Int)+(y:Int))%4=(r1:Int):=ae;have ai:((i:Int)+2*(y:Int))%4=(r2:Int):=ae;have ai:((i:Int)+3*(y:Int))%4=(r3:Int):=ae;have ib:(4:Int)+(r1:Int)=(b1:Int):=ae;have ib:(8:Int)+(r2:Int)=(b2:Int):=ae;have ib:(12:Int)+(r3:Int)=(b3:Int):=ae;obtain⟨NU,a4V⟩:=n_ (vd y vs i);have EM:=ha_ (vd y vs (i+1)=YU NU i b1 b2 b3/\True) ⟨by rw[aF,hb2,Ew,eI,PS,PT,a4V];rfl,trivial⟩;have ER:=ha_ (NU.length=16/\True) ⟨by rw[a4V,k7];exact A0.1,trivial⟩;have ie:b1<16:=ae;have ie:b2<16:=ae;have ie:b3<16:=ae;rw[<-a4V] at uX;clear a4V aF hb2 Ew eI PS PT;obtain⟨ib,eP⟩:=n_ (quarter ⟨xk NU i,xk NU b1,xk NU b2,xk NU b3⟩);have I3:=s_ eP;have IP:=ha_ (YU NU i b1 b2 b3=(((NU.set i ib.a).set b1 ib.b).set b2 ib.c).set b3 ib.d/\True) ⟨by rw[eP];rfl,trivial⟩;clear eP;have az:=λ(x:zO (λu v=>Below u.heap.size u v) wr.drew)=>(uX.drew.below x.rel uX.drew.lt).cell i _ (jG (kX (l:=NU) (i:=i) pt));have AV:=λ(x:zO (λu v=>Below u.heap.size u v) wr.drew)=>(uX.drew.below x.rel uX.drew.lt).cell b1 _ (jG (kX (l:=NU) (i:=b1) pt));have AW:=λ(x:zO (λu v=>Below u.heap.size u v) wr.drew)=>(uX.drew.below x.rel uX.drew.lt).cell b2 _ (jG (kX (l:=NU) (i:=b2) pt));have Rm:=λ(x:zO (λu v=>Below u.heap.size u v) wr.drew)=>(uX.drew.below x.rel uX.drew.lt).cell b3 _ (jG (kX (l:=NU) (i:=b3) pt));go_wp2_with fail;refine j3 (λu v=>Below u.heap.size u v) [36,39,42,45] [(0,2),(1,2),(2,2),(3,2),(4,2),(5,2),(6,2),(7,2),(8,2),(9,2),(10,2),(11,2),(12,1),(13,2),(14,2),(15,2),(16,2),(17,1),(18,2),(19,2),(20,2),(21,2),(22,1),(23,2),(24,2),(25,2),(26,2),(27,1),(34,2),(37,2),(40,2),(43,2),(28,0),(29,2),(30,2),(31,2),(32,2),(33,2),(35,2),(36,0),(38,2),(39,0),(41,2),(42,0),(44,2),(45,0)] (λa=>Below.refl _ a) (λ_ _ _ h1 h2=>h1.trans (h2.mono h1.size)) e0 e0 ?_;rintro A4 rfl;have uX:=zc uX.drew;have I9:=zc (Y4 I9);refine mqN ?_;clear az AV AW Rm;refine xo rfl aa (λK hK=>?_);go_simp;refine(tO ⟨xk NU i,xk NU b1,xk NU b2,xk NU b3⟩ _).mono ?_;rintro e w2⟨rfl,rfl⟩;rw[I3.1];unfold FO;go_simp;refine hK _ _ (λ_=>Below.refl _ _) ?_;clear hK K;refine agq ?_;intro K hK;refine uX.zd8 (v:=W ib.a) rfl rfl rfl yP rfl rfl (by rw[zaa,ER.1];omega) (λw2 hb2 ho2=>hK _ _ (λh=>by cases h) ?_);clear hK K;rw[qv] at hb2;have uX:=zc hb2;have I9:=zc (I9.trans ho2);clear hb2 ho2;go_simp;refine agq ?_;intro K hK;refine uX.zd8 (v:=W ib.b) rfl rfl rfl yP rfl rfl (by rw[zaa,zav,ER.1];omega) (λw2 hb2 ho2=>hK _ _ (λh=>by cases h) ?_);clear hK K;rw[qv] at hb2;have uX:=zc hb2;have I9:=zc (I9.trans ho2);clear hb2 ho2;go_simp;refine agq ?_;intro K hK;refine uX.zd8 (v:=W ib.c) rfl rfl rfl yP rfl rfl (by rw[zaa,zav,zav,ER.1];omega) (λw2 hb2 ho2=>hK _ _ (λh=>by cases h) ?_);clear hK K;rw[qv] at hb2;have uX:=zc hb2;have I9:=zc (I9.trans ho2);clear hb2 ho2;go_simp;refine agq ?_;intro K hK;refine uX.zd8 (v:=W ib.d) rfl rfl rfl yP rfl rfl (by rw[zaa,zav,zav,zav,ER.1];omega) (λw2 hb2 ho2=>hK _ _ (λh=>by cases h) ?_);clear hK K;rw[qv,<-IP.1,<-EM.1] at hb2;have uX:=zc hb2;have I9:=zc (I9.trans ho2);clear hb2 ho2;go_simp;refine vW ?_;go_wp2;go_roundw;case rel=>exact⟨i+1,ae,hM,uX,I9⟩
   case measure=>simp[intOf];omega
  ·obtain rfl:i=4:=by omega
   exact agm
def laid4:List (String×DataW Unit):=[("wringer/blake.first",Rows.laid_wringer_blake_first),("wringer/blake.rows",Rows.laid_wringer_blake_rows),("wringer/turn.mixes",Rows.laid_wringer_turn_mixes),("wringer/turn.unmixes",Rows.laid_wringer_turn_unmixes)]
def zjl:pgm.globalNamed "wringer/turn.mixes"=some 0:=e0
def GD:pgm.globalNamed "wringer/turn.unmixes"=some 1:=e0
def zjm:pgm.globalNamed "wringer/blake.first"=some 2:=e0
def zlA:pgm.globalNamed "wringer/blake.rows"=some 4:=e0
def zjn:(pgm.globals[0]?).map (·.type)=some 70:=e0
def GE:(pgm.globals[1]?).map (·.type)=some 70:=e0
def zjo:(pgm.globals[2]?).map (·.type)=some 237:=e0
def zlB:(pgm.globals[4]?).map (·.type)=some 279:=e0
section
variable{H:Type}{enc:TypeId×Value->H}{P:Program}{w:World}{base:Nat}{spare:Nat->Bool}{held:Bool}
def Zu{t e:TypeId}{fuel n:Nat}{k:IntKind}{cs:Lb_}{l:List Int}{p:List MemPlace}(ht:P.underlying t=some (.array n e))(he:P.underlying e=some (.int k))(hce:P.cellsOf e=1)(hct:P.cellsOf t=n)(h:DataW.trod enc P w base spare held fuel t cs=some (.agg (l.map λi=>.lit (.int k i)),p)):cs=l.map (.int k ·):=by
 obtain⟨Te,aZ,_,aH,eJ,aD,aau⟩:=DataW.trod_array ht h;rw[hct] at eJ;simp only[Prod.mk.injEq,DataW.agg.injEq] at aH;have Ld:l.length=n:=by have:=congrArg zcs aH.1;simpa[aD] using this
 apply zaK;intro i;by_cases aO:i<n
 ·have ag:=aau i aO;have aav:∃x,Te[i]? = some x:=⟨Te[i]' ae,ab⟩
  obtain⟨x,aav⟩:=aav;rw[aav,hce,Nat.mul_one] at ag;obtain⟨Ep,ai,An,_⟩:=DataW.trod_int he ag;have ag:=congrArg (λ(q:List (DataW H))=>q[i]?) aH.1;simp only[zay,aav,zbM,An] at ag;have az:cs[i]? = some (.int k Ep):=by
   have:=congrArg (λq:Lb_=>q[0]?) ai;simpa[zcv,zbw] using this
  rw[az,zay];cases hli:l[i]? with
  | none=>rw[hli] at ag;simp at ag
  | some y=>rw[hli] at ag;simp at ag;simp[ag]
 ·rw[zaf ae,zaf bq]
def pieces{n:Nat}{g:List Int->Lb_}:∀(ll:List (List Int))(cs:Lb_),cs.length=ll.length*n->(∀i l,ll[i]? = some l->(cs.drop (i*n)).take n=g l)->cs=(ll.map g).flatten
 | [],cs,h,_=>by
  have:cs=[]:=zaI cw;simp[this]
 | l::ll,cs,h,hg=>by
  have h0:=hg 0 l rfl;simp only[Nat.zero_mul,List.drop_zero] at h0;have hr:=pieces (n:=n) ll (cs.drop n) (by rw[zan,h,zaj,zbc];omega) (λi l' hl=>by
   have:=hg (i+1) l' (by simpa using hl);rw[zcf];rw[zbc,zbZ,Nat.add_comm] at this;exact this)
  rw[zca,za4,<-hr,<-h0,zaS]
def mj{t t1 e:TypeId}{fuel m n:Nat}{k:IntKind}{cs:Lb_}{ll:List (List Int)}{p:List MemPlace}(ht:P.underlying t=some (.array m t1))(ht1:P.underlying t1=some (.array n e))(he:P.underlying e=some (.int k))(hce:P.cellsOf e=1)(hct1:P.cellsOf t1=n)(hct:P.cellsOf t=m*n)(h:DataW.trod enc P w base spare held fuel t cs=some (.agg (ll.map λl=>.agg (l.map λi=>.lit (.int k i))),p)):cs=(ll.map λl=>l.map (.int k ·)).flatten:=by
 obtain⟨Te,ib,_,aH,eJ,aD,aau⟩:=DataW.trod_array ht h;rw[hct] at eJ;simp only[Prod.mk.injEq,DataW.agg.injEq] at aH;have Ld:ll.length=m:=by have:=congrArg zcs aH.1;simpa[aD] using this
 refine pieces (n:=n) ll cs (by rw[eJ,Ld]) λi l hl=>?_;have aO:i<m:=by rw[<-Ld];exact(List.getElem?_eq_some_iff.1 hl).1
 have ag:=aau i aO;obtain⟨x,aav⟩:∃x,Te[i]? = some x:=⟨Te[i]' ae,ab⟩
 rw[aav,hct1] at ag;have aM:=congrArg (λ(q:List (DataW H))=>q[i]?) aH.1;simp only[zay,aav,zbM,hl] at aM;obtain⟨ef,eY⟩:=x;simp only[Option.some.injEq] at aM;subst aM;exact Zu ht1 he hce hct1 ag
end
def XJ{P:Program}{w:World}{n:String}{g:Nat}{cs:Array Value}{vs:Lb_}(hg:P.globalNamed n=some g)(hv:w.var? P n=some cs)(hcs:cs.toList=vs)(hz:∃c t,w.heap[g]? = some (.cells c t (0,0))):Blk w g vs (ze3 w g):=by
 obtain⟨c,t,aF⟩:=hz;have ag:cs=c:=by
  simp only[World.var?,hg,Option.bind_some,aF] at hv;exact(zaW hv).symm
 subst ag;unfold Blk ze3;rw[aF,<-hcs]
def DA{W:World}(h:laidMetH pgm laid4 W):zeT W/\yi W:=by
 rw[MakeChecks.laidMetH_plain _ _ _ e0] at h;obtain⟨eL,⟨ie,ek,RE,ib,ox,ey,oG,aW,aL,ah,⟨oL,t1,aaw,ic,oy,oz,Ar,eH,iA,Oq,⟨oM,iJ,aax,iw,aay,oA,aaz,aaA,PN,aaB,⟨oN,iK,aaC,ix,aaD,oB,aaE,aaF,aaG,aaH,_,ai⟩,aj⟩,ak⟩,an⟩,_,aT⟩:=h;obtain rfl:=zaW (zjm.symm.trans oG);obtain rfl:=zaW (zlA.symm.trans Ar);obtain rfl:=zaW (zjl.symm.trans aaz);obtain rfl:=zaW (GD.symm.trans aaE);obtain rfl:=zaW (zjo.symm.trans aW);obtain rfl:=zaW (zlB.symm.trans eH);obtain rfl:=zaW (zjn.symm.trans aaA);obtain rfl:=zaW (GE.symm.trans aaF);have iy:RE.toList=Ym.map L:=(Zu (n:=8) (e:=92) (k:=.u64) (l:=Ym.map λx=>(x.toNat:Int)) e0 e0 e0 e0 ah).trans e0;have A5:aaw.toList=mY.map B:=(mj (m:=10) (n:=16) (t1:=144) (e:=5) (k:=.u8) (ll:=(zax 10).map λi=>((mY.drop (16*i)).take 16).map λx=>(x.toNat:Int)) e0 e0 e0 e0 e0 e0 Oq).trans e0;have P6:aax.toList=_:=Zu (n:=4) (k:=.u8) (l:=[2,3,1,1]) underlying70 underlying5 e0 e0 aaB;have Sz:aaC.toList=_:=Zu (n:=4) (k:=.u8) (l:=[14,11,13,9]) underlying70 underlying5 e0 e0 aaH;have ej:RE.size=8:=by rw[<-zbP,iy];rfl
 have iF:aaw.size=160:=by rw[<-zbP,A5];rfl
 have iG:aax.size=4:=by rw[<-zbP,P6];rfl
 have iH:aaC.size=4:=by rw[<-zbP,Sz];rfl
 refine⟨⟨XJ aaz PN P6 (aT 0 0 ?_).1,XJ aaE aaG Sz (aT 1 0 ?_).1⟩,⟨XJ oG aL iy (aT 2 0 ?_).1,XJ Ar iA A5 (aT 4 0 ?_).1⟩⟩
 ·rw[an,ak,aj,iG];exact zaE _ (zaE _ (zaP _ (zaP _ (MemPlace.mem_row.2 ⟨0,ae,rfl⟩))))
 ·rw[an,ak,aj,ai,iH];exact zaE _ (zaE _ (zaE _ (zaP _ (zaP _ (MemPlace.mem_row.2 ⟨0,ae,rfl⟩)))))
 ·rw[an,ej];exact zaP _ (zaP _ (MemPlace.mem_row.2 ⟨0,ae,rfl⟩))
 ·rw[an,ak,iF];exact zaE _ (zaP _ (zaP _ (MemPlace.mem_row.2 ⟨0,ae,rfl⟩)))
def door_met(os:Os)(args:Array Value):laidMetH pgm laid4 ((World.doorLaid pgm 300 os).forCall (λ_ _=>0) ⟨#[],args,[]⟩).memory :=
 laidMetH_of_parts3 (fuel:=8) (laidMet_of_run' 8 e0 e0) e0 e0
open Deep WideElems Maps Joins
section
variable{H:Type}{enc:TypeId×Value->H}{P:Program}{w:World}{base:Nat}{spare:Nat->Bool}{held:Bool}


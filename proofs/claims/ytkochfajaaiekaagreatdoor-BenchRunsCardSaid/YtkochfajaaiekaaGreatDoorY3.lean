/- Laws. -/
import Derived.Test.YtkochfajaaiekaaGreatDoorY2
set_option linter.all false
set_option maxHeartbeats 16000000
set_option maxRecDepth 100000
open List renaming drop_eq_nil_of_le->zak,ext_getElem?->zaK,flatten_cons->za4,getD->zbx,getElem?_eq_none->zaf,getElem?_map->zay,getElem?_range->zbj,getElem?_set_ne->zaX,getElem?_set_self->zbe,length_append->zac,length_drop->zan,length_map->zaa,length_set->zav,length_take->zam,mem_append->zaC,mem_cons_of_mem->zaN,mem_map->zaz,mem_of_getElem?->zad,mem_of_mem_drop->zcZ,mem_of_mem_take->zc0,nil_append->zaB,range->zax,take_of_length_le->zai
open Nat renaming add_mul->zbc,add_sub_cancel->zcE,add_zero->zci,le_refl->zab,lt_or_ge->zbl,min_eq_left->zbF,mul_add->zdK,one_mul->zbZ,zero_add->zbt,zero_mul->zcj
open UInt64 renaming ofNat->zae
open UInt8 renaming ofNat->zaq,ofNat_toNat->zaZ,toNat_lt->zdt
namespace Go.Proofs.YtkochfajaaiekaaGreatDoor
open Go.Proofs.Tryz
open Go.Proofs.Tryz renaming prog->pgm
variable{ks:List (La_)}{m:La_}{w w':World}{q cap kp kb zed:Nat}{ao:OA}
def zgx(w:La_):La_:=(zax 4).map λi=>at8 a0s (at8 w i).toNat
def a08(a b:La_):La_:=(zax 4).map λi=>yj (at8 a i) (at8 b i)
def Z0(w:La_):(zgx w).length=4:=by simp[zgx]
def Jk(a b:La_):(a08 a b).length=4:=by simp[a08]
def Vg(a b:La_)(ha:a.length=16)(hb:b.length=16):block (a0u a b)=both a b:=by
 apply zaK;intro aS;by_cases aO:aS<16
 ·have ag:(a0u a b)[aS]? = some (yj (at8 a aS) (at8 b aS)):=by simp[a0u,ha,hb,aO]
  simp only[block,both,zay,zbj,aO];simp[zeg ag]
 ·rw[zaf dd,zaf (by rw[zK];omega)]
def key(ks:List (La_))(i:Nat):La_:=ks.getD i []
def jI{i:Nat}(h:i<ks.length):ks[i]? = some (key ks i):=by simp[key,zbx,h]
def enc(ks:List (La_))(b:La_):La_:=last (rounds (both b (key ks 0)) ((ks.drop 1).take (ks.length-2))) (key ks (ks.length-1))
def YQ(ks:List (La_)):Nat->La_->La_
 | 0,b=>b
 | 1,b=>b
 | i+2,b=>YQ ks (i+1) (Zb b (key ks (i+1)))
def KK(ks:List (La_))(i:Nat)(b:La_)(h:1<i):YQ ks i b=YQ ks (i-1) (Zb b (key ks (i-1))):=by
 obtain⟨m,rfl⟩:∃m,i=m+2:=⟨i-2,ae⟩
 rfl
def dec(ks:List (La_))(b:La_):La_:=both (YQ ks (ks.length-1) (wO b (key ks (ks.length-1)))) (key ks 0)
def qw(ks:List (La_))(b:La_):(enc ks b).length=16:=mR _ _
def jN(ks:List (La_))(b:La_):(dec ks b).length=16:=zK _ _
def kL:∀(ks:List (La_))(b:La_),b.length=16->(rounds b ks).length=16
 | [],b,h=>h
 | k::r,b,_=>kL r (round b k) (Zc b k)
def turned(n:Nat)(long:Bool)(m:Nat)(w:La_)(zhs:UInt8):La_ :=
 if m%n=0 then(zgx [at8 w 1,at8 w 2,at8 w 3,at8 w 0]).set 0 (yj (at8 (zgx [at8 w 1,at8 w 2,at8 w 3,at8 w 0]) 0) zhs)
 else if long=true/\m%n=4 then zgx w else w
def WL(n:Nat)(long:Bool)(st:List (La_)×UInt8):List (La_)×UInt8 :=
 (st.1++[a08 (key st.1 (st.1.length-n)) (turned n long st.1.length (key st.1 (st.1.length-1)) st.2)],if st.1.length%n=0 then dbl st.2 else st.2)
def wt(n:Nat)(k:La_):List (La_):=(zax n).map λi=>zeb (xv k (4*i))
def XP(n:Nat)(long:Bool)(k:La_):Nat->List (La_)×UInt8
 | 0=>(wt n k,1)
 | i+1=>WL n long (XP n long k i)
def YR(n:Nat)(long:Bool)(k:La_):List (La_):=(XP n long k (4*(n+7)-n)).1
def expand(n:Nat)(long:Bool)(k:La_):List (La_):=(zax (n+7)).map λi=>(((YR n long k).drop (4*i)).take 4).flatten
def db(n:Nat)(long:Bool)(m:Nat)(w:La_)(zhs:UInt8)(h:w.length=4):(turned n long m w zhs).length=4:=by
 unfold turned;split
 ·rw[zav,Z0]
 ·split
  ·exact Z0 _
  ·exact h
def Xk(n:Nat)(long:Bool)(k:La_):∀i,(XP n long k i).1.length=n+i
 | 0=>by simp[XP,wt]
 | i+1=>by simp[XP,WL,Xk n long k i];omega
def KL(n:Nat)(long:Bool)(k:La_):∀i,∀x∈(XP n long k i).1,x.length=4
 | 0,x,h=>by
  simp[XP,wt] at h;obtain⟨j,_,rfl⟩:=h;exact yX _
 | i+1,x,h=>by
  rw[XP,WL,zaC] at h;rcases h with h|h
  ·exact KL n long k i x h
  ·simp at h;subst h;exact Jk _ _
def WC(n:Nat)(long:Bool)(k:La_):(YR n long k).length=4*(n+7):=by unfold YR;rw[Xk];omega
def Ki(n:Nat)(long:Bool)(k:La_):∀x∈YR n long k,x.length=4:=KL n long k _
def Yk(n:Nat)(long:Bool)(k:La_):(expand n long k).length=n+7:=by simp[expand]
def mS(a:La_)(i:Nat):UInt8:=if i<15 then or8 (kT (at8 a i) 1) (zeR (at8 a (i+1)) 7) else yj (kT (at8 a 15) 1) (Vd (zeR (at8 a 0) 7) 135)
def zfd(a:La_):La_:=(zax 16).map (mS a)
def Zd(a:La_):(zfd a).length=16:=by simp[zfd]
def zf3(a b:La_)(wanted:Bool):La_:=if wanted=true then both a b else a
def Jl(a b:La_)(wanted:Bool)(h:a.length=16):(zf3 a b wanted).length=16:=by unfold zf3;split;exact zK _ _;exact h
def VV:Nat->UInt64->La_->La_->La_
 | 0,_,out,_=>out
 | k+1,n,out,a=>if n.toNat=0 then out else VV k (yG n 1) (zf3 out a (((xS n 1).toNat:Int)==1)) (zfd a)
def multiple(n:UInt64)(a:La_):La_:=VV 64 n (zg 16) a
def Jm:∀(k:Nat)(n:UInt64)(out a:La_),out.length=16->(VV k n out a).length=16
 | 0,_,_,_,h=>h
 | k+1,n,out,a,h=>by
  unfold VV;split
  ·exact h
  ·exact Jm k _ _ _ (Jl _ _ _ h)
def wP(n:UInt64)(a:La_):(multiple n a).length=16:=Jm _ _ _ _ (ze 16)
def zez:Nat->La_->La_
 | 0,a=>a
 | k+1,a=>zez k (zfd a)
def ZD:∀(k:Nat)(a:La_),a.length=16->(zez k a).length=16
 | 0,a,h=>h
 | k+1,a,_=>ZD k _ (Zd a)
structure zx where
 i:La_
 j:La_
 l:La_
def zf4(k:zx)(n:Nat):La_:=if n=0 then k.i else if n=1 then k.j else k.l
def zir(i:Nat):Nat:=i/8+min (i%8) 1
def offset (k:zx)(j i:Nat):La_:=[zez (zir i) k.i,multiple (zae (i%8)) k.l].foldl both (multiple (zae j) k.j)
def zeF(k:zx)(j i:Nat)(x:La_):La_:=rounds (both x (offset k j i)) [k.j,k.i,k.l,zg 16]
def ze5(k:zx)(n:Nat):List (La_):=(zax n).map λm=>zf4 k (m%3)
def zfy(k:zx)(i:Nat)(x:La_):La_:=rounds (both x (multiple (zae i) k.l)) (ze5 k 10)
structure zx.Fit(k:zx):Prop where
 li:k.i.length=16
 lj:k.j.length=16
 ll:k.l.length=16
def Jn{k:zx}(h:k.Fit)(n:Nat):(zf4 k n).length=16:=by
 unfold zf4;split
 ·exact h.li
 ·split
  ·exact h.lj
  ·exact h.ll
def Kj(k:zx)(j i:Nat):(offset k j i).length=16:=by simp only[offset,List.foldl_cons,List.foldl_nil];exact zK _ _
def yU(k:zx)(j i:Nat)(x:La_):(zeF k j i x).length=16:=kL _ _ (zK _ _)
def xE(k:zx)(i:Nat)(x:La_):(zfy k i x).length=16:=kL _ _ (zK _ _)
def sP(k:zx)(n:Nat):ze5 k (n+1)=ze5 k n++[zf4 k (n%3)]:=by simp[ze5,List.range_succ]
def gK(k:zx)(n:Nat):(ze5 k n).length=n:=by simp[ze5]
def sQ{k:zx}(h:k.Fit)(n:Nat):∀x∈ze5 k n,x.length=16:=by intro x aH;simp only[ze5,zaz] at aH;obtain⟨aZ,_,rfl⟩:=aH;exact Jn h _
def ZE(k:zx)(j:Nat)(sum b:La_):La_:=both sum (zeF k j 0 (block (kz b 128 16)))
def Yl(k:zx)(j:Nat):Nat->Nat->La_->La_->La_
 | 0,_,sum,_=>sum
 | f+1,n,sum,b=>if 16<=b.length then Yl k j f (n+1) (both sum (zeF k j (n+1) (block b))) (b.drop 16) else if b.length=0 then sum else ZE k j sum b
def jU(k:zx)(j:Nat)(b:La_):La_:=if b.length=0 then ZE k j (zg 16) b else Yl k j (b.length+1) 0 (zg 16) b
def XQ(k:zx)(j:Nat)(sum b:La_):(ZE k j sum b).length=16:=zK _ _
def Kk(k:zx)(j:Nat):∀(f n:Nat)(sum b:La_),sum.length=16->(Yl k j f n sum b).length=16
 | 0,_,_,_,h=>h
 | f+1,n,sum,b,h=>by
  unfold Yl;split
  ·exact Kk k j f _ _ _ (zK _ _)
  ·split
   ·exact h
   ·exact XQ _ _ _ _
def gL(k:zx)(j:Nat)(b:La_):(jU k j b).length=16:=by
 unfold jU;split
 ·exact XQ _ _ _ _
 ·exact Kk _ _ _ _ _ _ (ze 16)
def W6(k:zx):Nat->La_->List (La_)->La_
 | _,sum,[]=>sum
 | j,sum,b::r=>W6 k (j+1) (both sum (jU k j b)) r
def q8(k:zx)(row:List (La_)):La_:=W6 k 3 (zg 16) row
def Kl(k:zx):∀(row:List (La_))(j:Nat)(sum:La_),sum.length=16->(W6 k j sum row).length=16
 | [],_,_,h=>h
 | b::r,j,sum,_=>Kl k r _ _ (zK _ _)
def Ze(k:zx)(row:List (La_)):(q8 k row).length=16:=Kl _ _ _ _ (ze 16)
def zeK(h:La_)(n:Nat):La_:=(zax 16).map λi=>if i<8 then at8 h i else yj (at8 h i) (at8 (zw (zae n)) (15-i))
def XR(h:La_)(n:Nat):(zeK h n).length=16:=by simp[zeK]
def YS(k:zx)(h:La_)(n:Nat):Nat->La_->La_
 | 0,out=>out
 | f+1,out=>if n<=out.length then out else YS k h n f (out++zfy k 3 (zeK h (out.length/16)))
def Ka(k:zx)(row:List (La_))(n:Nat):La_:=(YS k (q8 k row) n (n+1) []).take n
def Jo(k:zx)(h:La_)(n:Nat):∀(f:Nat)(out:La_),n<=out.length+16*f->n<=(YS k h n f out).length
 | 0,out,h=>by simp only[YS];omega
 | f+1,out,h'=>by
  unfold YS;split
  ·assumption
  ·exact Jo k h n f _ (by rw[zac,xE];omega)
def VW(k:zx)(row:List (La_))(n:Nat):(Ka k row n).length=n:=by unfold Ka;rw[zam];have:=Jo k (q8 k row) n (n+1) [] bq;omega
def jx(a b:La_)(i:Nat)(h:i<16):at8 (both a b) i=yj (at8 a i) (at8 b i):=by apply zeg;simp[both,h]
def XS{a b:La_}(ha:a.length=16)(hb:b.length=16)(h:∀i,i<16->at8 a i=at8 b i):a=b:=by
 apply zaK;intro i;by_cases aO:i<16
 ·rw[a01 ae,a01 ae,h i aO]
 ·rw[zaf ae,zaf ae]
def ff(a b:UInt8):yj a b=yj b a:=UInt8.xor_comm a b
def W7(a b c:UInt8):yj (yj a b) c=yj a (yj b c):=UInt8.xor_assoc a b c
def a09(a:UInt8):yj a a=0:=UInt8.xor_self
def zeY(a:UInt8):yj a 0=a:=UInt8.xor_zero
def BE(a:UInt8):yj 0 a=a:=UInt8.zero_xor
def Xm(a b:UInt8):yj (yj a b) b=a:=by rw[W7,a09,zeY]
def Zw(a b:La_):both a b=both b a:=XS (zK _ _) (zK _ _) λi hi=>by rw[jx _ _ _ hi,jx _ _ _ hi,ff]
def qh(a b c:La_):both (both a b) c=both a (both b c):=XS (zK _ _) (zK _ _) λi hi=>by
 rw[jx _ _ _ hi,jx _ _ _ hi,jx _ _ _ hi,jx _ _ _ hi,W7]
def Vh(n i:Nat):at8 (zg n) i=0:=by
 by_cases ag:i<n
 ·exact zeg (by simp[zg,ag])
 ·exact Jj (by rw[ze];omega)
def fg{a:La_}(h:a.length=16):both a (zg 16)=a:=XS (zK _ _) h λi hi=>by rw[jx _ _ _ hi,Vh,zeY]
def QT{a:La_}(h:a.length=16):both (zg 16) a=a:=by rw[Zw,fg h]
def BF(a:La_):both a a=zg 16:=XS (zK _ _) (ze 16) λi hi=>by rw[jx _ _ _ hi,Vh,a09]
def yH{a:La_}(h:a.length=16)(b:La_):both (both a b) b=a:=by rw[qh,BF,fg h]
def a0b{a b:La_}{i:Nat}(h1:i<a.length)(h2:i<b.length):(a0u a b)[i]? = some (yj (at8 a i) (at8 b i)):=by unfold a0u;rw[zay,zbj ae];rfl
def a0c{a b:La_}(h:a.length<=b.length):a0u (a0u a b) b=a:=by
 apply zaK;intro aS;have aR:(a0u a b).length=a.length:=by rw[a00];omega
 by_cases aO:aS<a.length
 ·rw[a0b ae ae,zeg (a0b aO ae),Xm,a01 aO]
 ·rw[zaf (by rw[a00];omega),zaf ae]
def yA(n:Nat):Nat:=if n<1\/31<n then 0 else if n=1 then 24 else if n=2 then 16 else if n<16 then 10 else 8
def plusB(l:List (La_)):La_:=l.foldl both (zg 16)
def jh(n:Nat):La_:=(zax 16).map λi=>if i<8 then 0 else at8 (zw (zae n)) (15-i)
def Qc(n:Nat):(jh n).length=16:=by simp[jh]
def stepT(k:zx)(h:La_)(i j:Nat)(half:La_):La_ :=
 (vH (zeF k 0 i (plusB [block (jw (half++[8])),h,jh j]))).take half.length
def Zf(k:zx)(h:La_)(i j:Nat)(half:La_)(hl:half.length<=31):(stepT k h i j half).length=half.length:=by unfold stepT;rw[zam,wu,yU];omega
def Vi(m:La_):La_:=(block m).set 0 (or8 (at8 (block m) 0) 128)
def Xn(k:zx)(h m:La_):UInt8:=zeX (at8 (zeF k 0 3 (plusB [Vi m,h])) 0) 128
def qf(k:zx)(h m:La_):La_:=if m.length=0\/16<=m.length then m else m.set 0 (yj (at8 m 0) (Xn k h m))
def fh{k:zx}{h:La_}(hm:¬(m.length=0\/16<=m.length)):qf k h m=m.set 0 (yj (at8 m 0) (Xn k h m)):=by unfold qf;rw[if_neg hm]
def j7(k:zx)(h m:La_):(qf k h m).length=m.length:=by unfold qf;split;rfl;exact zav
def qo(m:La_):La_:=(vH m).take m.length
def xw(m:La_):La_:=((vH m).drop m.length).take m.length
def gM(m:La_):(qo m).length=m.length:=by unfold qo;rw[zam,wu];omega
def de(m:La_):(xw m).length=m.length:=by unfold xw;rw[zam,zan,wu];omega
def sS(m:La_):qo m++xw m=vH m:=by unfold qo xw;rw[zai (l:=List.drop _ _) (by rw[zan,wu];omega),List.take_append_drop]
def swapT(k:zx)(h:La_)(i j:Nat)(p:La_×La_):La_×La_:=(p.2,a0u p.1 (stepT k h i j p.2))
def upT(k:zx)(h:La_)(i:Nat):Nat->La_×La_->La_×La_
 | 0,p=>p
 | n+1,p=>swapT k h i n (upT k h i n p)
def j8(k:zx)(h:La_)(i:Nat):Nat->La_×La_->La_×La_
 | 0,p=>p
 | n+1,p=>j8 k h i n (swapT k h i n p)
def kD(n:Nat):Nat:=if 16<=n then 6 else 7
def Qd(p:La_×La_):La_:=jw (p.2++p.1)
def vJ(k:zx)(row:List (La_))(m:La_)(back:Bool):La_ :=
 if back=true then Qd (j8 k (q8 k row) (kD m.length) (yA m.length) (qo (qf k (q8 k row) m),xw (qf k (q8 k row) m)))
 else qf k (q8 k row) (Qd (upT k (q8 k row) (kD m.length) (yA m.length) (qo m,xw m)))
def Two(n:Nat)(p:La_×La_):Prop:=p.1.length=n/\p.2.length=n
def Two.swap{k:zx}{h:La_}{i j n:Nat}{p:La_×La_}(hp:Two n p)(hn:n<=31):Two n (swapT k h i j p):=by refine⟨hp.2,?_⟩;show(a0u _ _).length=n;rw[a00,Zf _ _ _ _ _ (by rw[hp.2];exact hn),hp.1,hp.2];omega
def Two.up{k:zx}{h:La_}{i n:Nat}{p:La_×La_}(hp:Two n p)(hn:n<=31):∀r,Two n (upT k h i r p)
 | 0=>hp
 | r+1=>(Two.up hp hn r).swap hn
def Two.down{k:zx}{h:La_}{i n:Nat}(hn:n<=31):∀(r:Nat) {p:La_×La_},Two n p->Two n (j8 k h i r p)
 | 0,_,hp=>hp
 | r+1,_,hp=>Two.down hn r (hp.swap hn)
def Two.out{n:Nat}{p:La_×La_}(hp:Two n p):(Qd p).length=n:=by unfold Qd;rw[Xl,zac,hp.1,hp.2];omega
def Two.start(m:La_):Two m.length (qo m,xw m):=⟨gM m,de m⟩
def fi{k:zx}{h:La_}{i j n:Nat}{p:La_×La_}(hp:Two n p)(hn:n<=31):swapT k h i j ((swapT k h i j p).2,(swapT k h i j p).1)=(p.2,p.1):=by
 show((p.2:La_),a0u (a0u p.1 (stepT k h i j p.2)) (stepT k h i j p.2))=(p.2,p.1)
 rw[a0c (by rw[Zf _ _ _ _ _ (by rw[hp.2];exact hn),hp.1,hp.2];omega)]
def down_up{k:zx}{h:La_}{i n:Nat}(hn:n<=31):∀(r:Nat) {p:La_×La_},Two n p->j8 k h i r ((upT k h i r p).2,(upT k h i r p).1)=(p.2,p.1)
 | 0,_,_=>rfl
 | r+1,p,hp=>by
  show j8 k h i r (swapT k h i r ((swapT k h i r (upT k h i r p)).2,(swapT k h i r (upT k h i r p)).1))=_;rw[fi (hp.up hn r) hn];exact down_up hn r hp
def up_down{k:zx}{h:La_}{i n:Nat}(hn:n<=31):∀(r:Nat) {p:La_×La_},Two n p->upT k h i r ((j8 k h i r p).2,(j8 k h i r p).1)=(p.2,p.1)
 | 0,_,_=>rfl
 | r+1,p,hp=>by
  show swapT k h i r (upT k h i r ((j8 k h i r (swapT k h i r p)).2,(j8 k h i r (swapT k h i r p)).1))=_;rw[up_down hn r (hp.swap hn),fi hp hn]
def Low(l:La_):Prop:=∀x∈l,x.toNat<=15
def W8(m:La_):Low (vH m):=DP m
def Hy:∀x,x<16->∀y,y<16->(yj (zaq x) (zaq y)).toNat<=15:=ar
def DQ(a b:UInt8)(ha:a.toNat<=15)(hb:b.toNat<=15):(yj a b).toNat<=15:=by
 have:=Hy a.toNat ae b.toNat ae
 rwa [zaZ,zaZ] at this
def UO{l:La_}(h:Low l)(i:Nat):(at8 l i).toNat<=15:=by
 by_cases aO:i<l.length
 ·exact h _ (zad (a01 aO))
 ·rw[Jj ae];simp
def Low.zer{a b:La_}(ha:Low a)(hb:Low b):Low (a0u a b):=by intro ef aH;simp only[a0u,zaz] at aH;obtain⟨aS,_,rfl⟩:=aH;exact DQ _ _ (UO ha aS) (UO hb aS)
def Low.take{l:La_}(h:Low l)(n:Nat):Low (l.take n):=λx hx=>h x (zc0 hx)
def Low.drop{l:La_}(h:Low l)(n:Nat):Low (l.drop n):=λx hx=>h x (zcZ hx)
def Low.append{a b:La_}(ha:Low a)(hb:Low b):Low (a++b):=λx hx=>(zaC.1 hx).elim (ha x) (hb x)
def Kb(p:La_×La_):Prop:=Low p.1/\Low p.2
def Kb.swap{k:zx}{h:La_}{i j:Nat}{p:La_×La_}(hp:Kb p):Kb (swapT k h i j p):=⟨hp.2,hp.1.zer ((W8 _).take _)⟩
def Kb.up{k:zx}{h:La_}{i:Nat}{p:La_×La_}(hp:Kb p):∀r,Kb (upT k h i r p)
 | 0=>hp
 | r+1=>(Kb.up hp r).swap
def Kb.down{k:zx}{h:La_}{i:Nat}:∀(r:Nat) {p:La_×La_},Kb p->Kb (j8 k h i r p)
 | 0,_,hp=>hp
 | r+1,_,hp=>Kb.down r hp.swap
def Kb.start(m:La_):Kb (qo m,xw m):=⟨(W8 m).take _,((W8 m).drop _).take _⟩
def BG:∀x,x<16->∀y,y<16->zeR (or8 (half (zaq x) 0) (half (zaq y) 1)) 4=zaq x/\zeX (or8 (half (zaq x) 0) (half (zaq y) 1)) 15=zaq y:=ar
def fj:∀(l:La_),Low l->l.length%2=0->vH (jw l)=l
 | [],_,_=>rfl
 | [a],_,h=>by simp at h
 | a::b::l,hl,h=>by
  have ha:=hl a ab;have hb:=hl b ab;have:=BG a.toNat ae b.toNat ae;rw[zaZ,zaZ] at this;rw[jw,vH,this.1,this.2,fj l (λx hx=>hl x (by simp[hx])) Aw]
def W9{n:Nat}{p:La_×La_}(hp:Two n p)(hl:Kb p):(qo (Qd p),xw (Qd p))=(p.2,p.1):=by have ag:vH (Qd p)=p.2++p.1:=fj _ (hl.2.append hl.1) (by rw[zac,hp.1,hp.2];omega);have aM:=hp.out;unfold qo xw;rw[ag,aM,List.take_append_of_le_length di,zai di,List.drop_append_of_le_length di,zak di,zaB,zai (by rw[hp.1];exact zab _)]
def ub(m:La_):Qd (xw m,qo m)=m:=by unfold Qd;rw[sS,BD]
def DR:∀x,x<256->∀y,y<256->or8 (yj (zaq x) (zeX (zaq y) 128)) 128=or8 (zaq x) 128:=ar
def mW(h:m.length≠0)(y:UInt8):Vi (m.set 0 (yj (at8 m 0) (zeX y 128)))=Vi m:=by
 have eg:∀i,i≠0->at8 (m.set 0 (yj (at8 m 0) (zeX y 128))) i=at8 m i:=λi hi=>by
  unfold at8;simp[zbx,zaX (Ne.symm hi)]
 have ag:at8 (m.set 0 (yj (at8 m 0) (zeX y 128))) 0=yj (at8 m 0) (zeX y 128):=zeg (by rw[zbe (by omega)]);have aF:∀(l:La_) i,i<16->at8 (block l) i=at8 l i:=λl i hi=>zeg (by simp[block,hi]);unfold Vi;refine XS (by rw[zav,zI]) (by rw[zav,zI]) λi hi=>?_;by_cases ai:i=0
 ·subst ai;rw[zeg (zbe dd),zeg (zbe dd),aF _ _ hi,aF _ _ hi,ag];have:=DR (at8 m 0).toNat (zdt _) y.toNat (zdt _)
  rwa [zaZ,zaZ] at this
 ·unfold at8;simp only[zbx,zaX (Ne.symm ai)];have:=aF (m.set 0 (yj (at8 m 0) (zeX y 128))) i hi;have ag:=aF m i hi;rw[eg i ai,<-ag] at this;exact this
def flip_flip(k:zx)(h m:La_):qf k h (qf k h m)=m:=by
 by_cases eh:m.length=0\/16<=m.length
 ·have ai:qf k h m=m:=by unfold qf;rw[if_pos eh]
  rw[ai,ai]
 ·have ai:qf k h m=m.set 0 (yj (at8 m 0) (Xn k h m)):=by unfold qf;rw[if_neg eh]
  have aR:(qf k h m).length=m.length:=j7 _ _ _;have ei:Xn k h (qf k h m)=Xn k h m:=by
   unfold Xn;rw[ai];unfold Xn;rw[mW ae]
  have aj:qf k h (qf k h m)=(qf k h m).set 0 (yj (at8 (qf k h m) 0) (Xn k h m)):=by
   rw[fh (m:=qf k h m) (by rw[aR];exact eh),ei]
  have ag:at8 (qf k h m) 0=yj (at8 m 0) (Xn k h m):=zeg (by rw[ai,zbe (by omega)]);rw[aj,ag,Xm,ai,List.set_set];apply zaK;intro aS;by_cases aO:aS=0
  ·subst aO;rw[zbe ae,a01 ae]
  ·rw[zaX (Ne.symm aO)]
def Jp(k:zx)(row:List (La_))(m:La_)(back:Bool)(hm:m.length<=31):(vJ k row m back).length=m.length:=by
 unfold vJ;split
 ·have:=(Two.start (qf k (q8 k row) m))
  rw[j7] at this;exact(this.down hm _).out
 ·rw[j7];exact((Two.start m).up hm _).out
def sU(k:zx)(row:List (La_))(m:La_)(back:Bool)(hm:m.length<=31):vJ k row (vJ k row m back) (!back)=m:=by
 have aR:=Jp k row m back hm;cases back with
 | false =>
  show vJ k row _ true=m;have ai:vJ k row m false=qf k (q8 k row) (Qd (upT k (q8 k row) (kD m.length) (yA m.length) (qo m,xw m))):=rfl;rw[vJ,if_pos rfl,aR,ai,flip_flip,W9 ((Two.start m).up hm _) ((Kb.start m).up _),down_up hm _ (Two.start m)];exact ub m
 | true =>
  show vJ k row _ false=m;have ai:vJ k row m true=Qd (j8 k (q8 k row) (kD m.length) (yA m.length) (qo (qf k (q8 k row) m),xw (qf k (q8 k row) m))):=rfl;have aW:=(Two.start (qf k (q8 k row) m))
  rw[j7] at aW;rw[vJ,if_neg ab,aR,ai,W9 (aW.down hm _) ((Kb.start _).down _),up_down hm _ aW];show qf _ _ (Qd (xw _,qo _))=m;rw[ub,flip_flip]
section
open RowKit
attribute [local irreducible] zA zG zH zE
def Tab.zhz{p:Nat}(h:Tab w q p):w.cell? ⟨q,0,none⟩=some (.pointer (some ⟨p,0,none⟩)):=h.tab.cell 0 _ rfl
def Lg(q p:Nat)(b key:La_)(w:World)(ht:Tab w q p)(hlb:b.length=16)(hlk:key.length=16):C_b 127 #[.pointer (some ⟨q,0,none⟩),.agg (b.map B).toArray,.agg (key.map B).toArray] w (.agg ((last b key).map B).toArray):=by
 have IU:=zc hlb;have ME:=zc hlk;refine afy ?_;intro EW MK ML;clear ht hlb hlk;go_enter func127,ntmps127;go_wp2_with (refine aqD ?_);refine am7 ?_;intro A4 aF sy EW aB;go_wp2_with (refine aqE ?_);refine anw EW ?_;intro Ev aF sy EW II;go_wp2_with (refine aqB ?_);refine amg ?_;intro IX aF sy EW aB;go_wp2_with (refine aqB ?_);refine amx ?_;intro MF aF sy EW MJ;generalize M1:w.heap.size=MN at*;generalize A4.heap.size=MO at*;generalize Ev.heap.size=MP at*;generalize IX.heap.size=MQ at*;have IZ:=zc M1;clear M1;go_wp2;go_loopw [13] (λc wr=>∃(k:Nat)(l:La_),k<=4/\c=.int .i64 k/\yv (Xj b) 16 (4*k) l/\St w MN wr [(MQ,l.map B,144),(MP,(zg 16).map B,144),(MO,key.map B,144),(MN,b.map B,144),(p,a0s.map B,75),(q,.pointer (some ⟨p,0,none⟩)::(entries a0s).map W,68)]) (λc _=>4-(intOf c).toNat);case atStart=>exact⟨0,zg 16,ae,rfl,yv.zero (ze _),EW⟩
 case round =>
  clear EW;obtain⟨k,l,aQ,rfl,I1,eg⟩:=hrel;by_cases aB:k<4
  ·have ah:decide ((k:Int)<4)=true:=bq;have I3:=zc I1;have EW:=zc eg;clear I1 eg;go_wp2;go_loopw [16] (λc ws=>∃(r:Nat)(l:La_),r<=4/\c=.int .i64 r/\yv (Xj b) 16 (4*k+r) l/\St w MN ws [(MQ,l.map B,144),(MP,(zg 16).map B,144),(MO,key.map B,144),(MN,b.map B,144),(p,a0s.map B,75),(q,.pointer (some ⟨p,0,none⟩)::(entries a0s).map W,68)]) (λc _=>4-(intOf c).toNat);case atStart=>exact⟨0,l,ae,rfl,I3,EW⟩
   case round =>
    obtain⟨r,Mv,eI,rfl,N3,eF⟩:=hrel;by_cases II:r<4
    ·have N4:yu r k<16:=dk;have ag:=lt8 (at8 b (yu r k));have az:=λ(x:zL wr.drew)=>((eF.drew.later x.later).get 3 rfl).cell _ _ (zX (a01 (b:=b) (i:=yu r k) (by rw[IU.o];exact N4)));have AV:=λ(x:zL wr.drew)=>((eF.drew.later x.later).get 5 rfl).cell 0 _ rfl;have oK:Xj b (4*k+r)=at8 a0s (at8 b (yu r k)).toNat:=by
      unfold Xj;rw[show(4*k+r)%4=r by omega,show(4*k+r)/4=k by omega]
     refine ajJ oK N3 eF ?_;intro N5 I3 EW;clear oK N3 eF;go_wp2_with fail;refine agE ?_;rintro A4 rfl;refine aiz ?_;intro K hK;refine(K1 r k _ II aB).mono ?_;rintro ai A4⟨rfl,rfl⟩;refine aly ?_;clear hK K;refine aiz ?_;intro K hK;refine(Fk p a0s (at8 b (yu r k)) _ j4 (EW.drew.get 4 rfl)).mono ?_;rintro ai A4⟨rfl,rfl⟩;go_simp;rw[<-N5.o];refine hK _ _ (z9.refl _) ?_;clear hK K az AV;refine aiG ?_;intro K hK;refine(EW.drew.get 0 rfl).zd8 (v:=B (Xj b (4*k+r))) rfl rfl rfl zm rfl rfl (by rw[zaa,I3.1];omega) (λw8 hb8 ho8=>hK _ _ ?_);clear hK K;rw[show r+4*k=4*k+r by omega,yD] at hb8;have EX:=zc (EW.drew.change 0 hb8 ho8 ae bq);have N6:=zc (I3.step ae);clear hb8 ho8;refine aeS ?_;go_wp2;go_roundw;case rel=>exact⟨r+1,_,ae,rfl,N6,EX⟩
     case measure=>simp[intOf];omega
    ·obtain rfl:r=4:=ae;have I3:=ha_ (yv (Xj b) 16 (4*(k+1)) Mv) N3;have EW:=zc eF;clear N3 eF;exact ahJ
  ·obtain rfl:k=4:=ae;have EM:=ha_ (l=(zax 16).map (Xj b)) I1.all;have I0:=l_ l 16 I1.1;have N7:=l_ key 16 ME;have N2:=I1.1;have EW:=zc eg;clear I1 eg;go_wp2_with (first|(refine EW.g0.zdS rfl rfl rfl zd I0 ?_)|(refine EW.g2.zdS rfl rfl rfl zd N7 ?_));refine(lB l key _ N2 ME).mono ?_;rintro ai w8⟨rfl,Eu⟩;have EX:=zc (EW.later Eu);clear Eu;go_wp2_with (refine EX.g1.zdP rfl rfl rfl rfl zd ga gb (zj _) ?_);intro A4 aF oE;have MV:=zi EX.bel oE ae;go_wp2;refine aF.result rfl rfl rfl zd gb ⟨by rw[EM.o];rfl,?_⟩;rw[IZ.o];exact MV
def uZ(q p:Nat)(b:La_)(w:World)(ht:Tab w q p)(hlb:b.length=16):C_b 233 #[.pointer (some ⟨q,0,none⟩),.agg (b.map B).toArray] w (.agg ((qY b).map B).toArray):=by
 have IU:=zc hlb;refine afy ?_;intro EW MK ML;clear ht hlb;go_enter func233,ntmps233;go_wp2_with (refine aqD ?_);refine am7 ?_;intro A4 aF sy EW aB;go_wp2_with (refine aqB ?_);refine amb ?_;intro Ev aF sy EW aB;go_wp2_with (refine aqB ?_);refine anw EW ?_;intro IX aF sy EW MJ;generalize M1:w.heap.size=MN at*;generalize A4.heap.size=MP at*;generalize Ev.heap.size=MQ at*;have IZ:=zc M1;clear M1;go_wp2;go_loopw [8] (λc wr=>∃(k:Nat)(l:La_),k<=4/\c=.int .i64 k/\l.length=16/\(∀r j,r<4->j<k->l[yu r j]? = some (jT b (yu r j)))/\St w MN wr [(MQ,l.map B,144),(MP,(zg 16).map B,144),(MN,b.map B,144),(p,a0s.map B,75),(q,.pointer (some ⟨p,0,none⟩)::(entries a0s).map W,68)]) (λc _=>4-(intOf c).toNat);case atStart=>exact⟨0,zg 16,ae,rfl,ze _,λ_ j _ h=>absurd h ae,EW⟩
 case round =>
  clear EW;obtain⟨k,l,aQ,rfl,N2,I1,eg⟩:=hrel;by_cases aB:k<4
  ·have ah:decide ((k:Int)<4)=true:=bq;have I3:=zc I1;have EW:=zc eg;have I0:=zc N2;clear I1 eg N2;go_wp2;go_loopw [11] (λc ws=>∃(r:Nat)(l:La_),r<=4/\c=.int .i64 r/\l.length=16/\(∀r j,r<4->j<k->l[yu r j]? = some (jT b (yu r j)))/\(∀s,s<r->l[yu s k]? = some (jT b (yu s k)))/\St w MN ws [(MQ,l.map B,144),(MP,(zg 16).map B,144),(MN,b.map B,144),(p,a0s.map B,75),(q,.pointer (some ⟨p,0,none⟩)::(entries a0s).map W,68)]) (λc _=>4-(intOf c).toNat);case atStart=>exact⟨0,l,ae,rfl,I0,I3,λs h=>absurd h ae,EW⟩
   case round =>
    obtain⟨r,Mv,eI,rfl,aR,N3,N8,eF⟩:=hrel;by_cases II:r<4
    ·have N4:yu r k<16:=dk;have ag:=lt8 (at8 b (r+4*k));have az:=λ(x:zL wr.drew)=>((eF.drew.later x.later).get 2 rfl).cell _ _ (zX (a01 (b:=b) (i:=r+4*k) (by rw[IU.o];omega)));have AV:=λ(x:zL wr.drew)=>((eF.drew.later x.later).get 4 rfl).cell 0 _ rfl;have oK:jT b (yu r k)=at8 a0s (256+(at8 b (r+4*k)).toNat):=by
      unfold jT yu;rw[show(r+4*((k+r)%4))%4=r by omega,show(r+4*((k+r)%4))/4=(k+r)%4 by omega,show((k+r)%4+4-r)%4=k by omega]
     refine ajJ oK N3 N8 ?_;intro N5 I3 M8;have A0:=zc aR;have EW:=zc eF;clear oK N3 eF N8 aR;go_wp2_with fail;refine zp [0,1,3,4,5,6,7,8,9,10,11,12,2,13,14,15] e0 e0 ?_;rintro A4 rfl;refine aiz ?_;intro K hK;refine(K1 r k _ II aB).mono ?_;rintro ai A4⟨rfl,rfl⟩;refine aly ?_;clear hK K;refine aiz ?_;intro K hK;refine(Lf p a0s (at8 b (r+4*k)) _ j4 (EW.drew.get 3 rfl)).mono ?_;rintro ai A4⟨rfl,rfl⟩;go_simp;rw[<-N5.o];refine hK _ _ (z9.refl _) ?_;clear hK K az AV;refine aiG ?_;intro K hK;refine(EW.drew.get 0 rfl).zd8 (v:=B (jT b (yu r k))) rfl rfl rfl zm rfl rfl (by rw[zaa,A0.o];omega) (λw8 hb8 ho8=>hK _ _ ?_);clear hK K;rw[yD] at hb8;have EX:=zc (EW.drew.change 0 hb8 ho8 ae bq);clear hb8 ho8;refine aeS ?_;go_wp2;go_roundw;case rel =>
      refine⟨r+1,_,ae,rfl,by rw[zav];exact A0,λs j h1 h2=>?_,λs h1=>?_,EX⟩
      ·rw[zaX dk];exact I3 s j h1 h2
      ·by_cases ai:s=r
       ·subst ai;rw[zbe (by rw[A0.o];exact N4)]
       ·rw[zaX dk];exact M8 s ae
     case measure=>simp[intOf];omega
    ·obtain rfl:r=4:=ae;have A0:=zc aR;have I3:=ha_ (∀r j,r<4->j<k+1->Mv[yu r j]? = some (jT b (yu r j))) (λs j h1 h2=>by
      by_cases ai:j=k
      ·subst ai;exact N8 s h1
      ·exact N3 s j h1 ae)
     have EW:=zc eF;clear N3 eF N8 aR;go_wp2;go_roundw;case rel=>exact⟨k+1,_,ae,rfl,A0,I3,EW⟩
     case measure=>simp[intOf];omega
  ·obtain rfl:k=4:=ae;have aJ:l=qY b:=by
    apply zaK;intro i;by_cases aO:i<16
    ·have:=I1 (i%4) ((i/4+4-i%4)%4) ae ae;rw[show yu (i%4) ((i/4+4-i%4)%4)=i by unfold yu;omega] at this;rw[this];simp[qY,aO]
    ·rw[zaf ae,zaf (by rw[q7];omega)]
   have EM:=zc aJ;have I0:=l_ l 16 N2;have EW:=zc eg;clear I1 eg aJ N2;go_wp2_with (first|(refine EW.g0.zdS rfl rfl rfl zd I0 ?_)|(refine EW.g1.zdP rfl rfl rfl rfl zd ga I0 (zj _) ?_));intro A4 aF oE;have MV:=zi EW.bel oE ae;go_wp2;refine aF.result rfl rfl rfl zd I0 ⟨g7,?_⟩;rw[IZ.o];exact MV
def St.tab{w0:World}{base:Nat}{L:List (Nat×Lb_×TypeId)}{p:Nat}(h:St w0 base w L)(i j:Nat)(hi:L[i]? = some (p,a0s.map B,75))(hj:L[j]? = some (q,.pointer (some ⟨p,0,none⟩)::(entries a0s).map W,68)):Tab w q p:=⟨h.get i hi,h.get j hj⟩
def tu(q p:Nat)(b key:La_)(w:World)(ht:Tab w q p)(hlb:b.length=16)(hlk:key.length=16):C_b 225 #[.pointer (some ⟨q,0,none⟩),.agg (b.map B).toArray,.agg (key.map B).toArray] w (.agg ((Zb b key).map B).toArray):=by
 have IU:=zc hlb;have ME:=zc hlk;refine afy ?_;intro EW MK ML;have EK:=zK b key;have N9:=ha_ (Zb b key=qY ((zax 16).map (qH (both b key)))) rfl;clear ht hlb hlk;go_enter func225,ntmps225;go_wp2_with (refine aqD ?_);refine am7 ?_;intro A4 aF sy EW aB;go_wp2_with (refine aqE ?_);refine anw EW ?_;intro Ev aF sy EW II;go_wp2_with (refine aqB ?_);refine amg ?_;intro IX aF sy EW aB;go_wp2_with (refine aqB ?_);refine amx ?_;intro MF aF sy EW MJ;generalize M1:w.heap.size=MN at*;generalize A4.heap.size=MO at*;generalize Ev.heap.size=MP at*;generalize IX.heap.size=MQ at*;have IZ:=zc M1;clear M1;go_wp2_with (first|(refine(EW.get 3 rfl).zdS rfl rfl rfl zd (by rw[zaa];exact IU) ?_)|(refine EW.g2.zdS rfl rfl rfl zd (by rw[zaa];exact ME) ?_));refine(lB b key _ IU ME).mono ?_;refine aio ?_;intro A4 sy EW;go_wp2_with (refine(EW.get 3 rfl).zdP rfl rfl rfl rfl zd (by rw[zaa];exact IU) (by rw[zaa];exact EK) (zj _) ?_);intro Na aF oE;have EW:=zc (EW.change 3 aF oE ae bq);go_wp2;generalize Nb:both b key=Nc at*;have Nd:=zc Nb;clear Nb;go_loopw [18] (λc wr=>∃(k:Nat)(l:La_),k<=4/\c=.int .i64 k/\yv (qH Nc) 16 (4*k) l/\St w MN wr [(MQ,l.map B,144),(MP,(zg 16).map B,144),(MO,key.map B,144),(MN,Nc.map B,144),(p,a0s.map B,75),(q,.pointer (some ⟨p,0,none⟩)::(entries a0s).map W,68)]) (λc _=>4-(intOf c).toNat);case atStart=>exact⟨0,zg 16,ae,rfl,yv.zero (ze _),EW⟩
 case round =>
  clear EW;obtain⟨k,l,aQ,rfl,I1,eg⟩:=hrel;have I3:=zc I1;have EW:=zc eg;clear I1 eg;by_cases aB:k<4
  ·have ah:decide ((k:Int)<4)=true:=by simp;omega
   go_wp2;go_loopw [9,21] (λn c ws=>∃r:Nat,r<=4/\c=.int .i64 r/\n=W (q6 Nc k r)/\St w MN ws [(MQ,l.map B,144),(MP,(zg 16).map B,144),(MO,key.map B,144),(MN,Nc.map B,144),(p,a0s.map B,75),(q,.pointer (some ⟨p,0,none⟩)::(entries a0s).map W,68)]) (λ_ c _=>4-(intOf c).toNat);case atStart=>exact⟨0,ae,rfl,rfl,EW⟩
   case round =>
    obtain⟨r,eI,rfl,rfl,eg⟩:=hrel;by_cases II:r<4
    ·have az:=λ(x:zL wr.drew)=>((eg.drew.later x.later).get 3 rfl).cell _ _ (zX (a01 (b:=Nc) (i:=r+4*k) (by rw[EK];omega)));have AV:=λ(x:zL wr.drew)=>((eg.drew.later x.later).tab 4 5 rfl rfl).zkH r (at8 Nc (r+4*k)) II;have ag:=lt8 (at8 Nc (r+4*k));have EX:=zc eg;clear eg;go_wp2_with fail;refine agE ?_;rintro Na rfl;refine mqR ?_;clear az AV ag;refine zq ?_;go_wp2;go_roundw;case rel=>exact⟨r+1,ae,rfl,rfl,EX.drew⟩
     case measure=>simp[intOf];omega
    ·obtain rfl:r=4:=ae;have EW:=zc eg;clear eg;go_wp2_with fail;refine(Xw _ _).mono ?_;refine asj EW ?_;intro A4 EW;go_wp2_with (refine zf 70 ((zg 4).map B) _ rfl rfl KY rfl ?_);intro Nf Ew MV;have MW:=EW.ne _ (zad (i:=0) rfl);have Ng:=EW.ne _ (zad (i:=2) rfl);simp only at MW Ng;have EW:=zc (EW.push Ew MV);clear MV;generalize A4.heap.size=Nh at*;go_wp2_with (refine EW.g0.zdP rfl rfl rfl (cs:=(zeb (q6 Nc k 4)).map B) rfl jZ ev (by simp[yX]) (zj _) ?_);intro A4 MZ AN;have EW:=zc (EW.change 0 MZ AN ae bq);clear MZ AN;have N0:=λ(w':World)=>xz (P:=pgm) w' 144 5 16 underlying144 zm MQ 0 (4*k) (4*(k:Int)) rfl ae;rw[zbt] at N0;go_wp2_with fail;refine zp [0,1,2,3,4] e0 e0 ?_;rintro A4 rfl;refine aiG ?_;intro K hK;refine(EW.drew.get 1 rfl).zeV (4*k) ((zeb (q6 Nc k 4)).map B) rfl rfl rfl underlying23 zm (λ_=>rfl) (EW.drew.get 0 rfl).lies (by rw[zaa,yX];exact(zbF (by omega)).symm) (by rw[zaa,zaa,yX,I3.1];omega) (zj _) (λw12 zfs zfM=>hK _ _ ?_);clear hK K N0;rw[qN] at zfs;have N1:=I3.splice (m:=4) (cs:=zeb (q6 Nc k 4)) ae (yX _) (λj hj=>gJ Nc k j hj);have I3:=ha_ (yv (qH Nc) 16 (4*(k+1)) (splice l (4*k) (zeb (q6 Nc k 4)))) N1;have Ni:=EW.drew.change 1 zfs zfM ae bq;have EW:=ha_ (St w MN w12 [(MQ,(splice l (4*k) (zeb (q6 Nc k 4))).map B,144),(MP,(zg 16).map B,144),(MO,key.map B,144),(MN,Nc.map B,144),(p,a0s.map B,75),(q,.pointer (some ⟨p,0,none⟩)::(entries a0s).map W,68)]) ⟨Ni.zeu,Ni.bel,λe he=>Ni.all e (zaN _ he)⟩;clear zfs zfM N1 Ni;refine aeS ?_;exact ahJ
  ·obtain rfl:k=4:=ae;have EM:=ha_ (l=(zax 16).map (qH Nc)) I3.all;have N2:=I3.1;have I0:=l_ l 16 N2;go_wp2_with (refine EW.g0.zdS rfl rfl rfl zd I0 ?_);refine(uZ q p l _ (EW.tab 4 5 rfl rfl) N2).mono ?_;refine asj EW ?_;intro Na EW;go_wp2_with (refine EW.g1.zdP rfl rfl rfl rfl zd ga gv (zj _) ?_);intro Nf Ew oE;have MV:=zi EW.bel oE ae;go_wp2;refine Ew.result rfl rfl rfl zd gv ⟨by rw[EM.o,N9.o],?_⟩;rw[IZ.o];exact MV
def B4(q p:Nat)(b key:La_)(w:World)(ht:Tab w q p)(hlb:b.length=16)(hlk:key.length=16):C_b 224 #[pa_ q,.agg (b.map B).toArray,.agg (key.map B).toArray] w (.agg ((wO b key).map B).toArray):=by have IU:=l_ b 16 hlb;have ME:=l_ key 16 hlk;have Nj:=zc hlb;have Nk:=zc hlk;refine afy ?_;intro EW MK ML;clear ht hlb hlk;go_enter func224,ntmps224;go_wp2_with (refine aqD ?_);refine am7 ?_;intro A4 aF sy EW aB;go_wp2_with (refine aqE ?_);refine amb ?_;intro Ev aF sy EW aB;go_wp2_with (refine aqB ?_);refine amg ?_;intro IX aF sy EW aB;generalize M1:w.heap.size=MN at*;generalize A4.heap.size=MO at*;generalize Ev.heap.size=MP at*;have IZ:=zc M1;clear M1;go_wp2_with (first|(refine EW.g2.zdS rfl rfl rfl zd IU ?_)|(refine EW.g1.zdS rfl rfl rfl zd ME ?_));refine(lB b key _ Nj Nk).mono ?_;rintro ai A4⟨rfl,sy⟩;refine aex ?_;intro EW;go_wp2_with fail;refine(uZ q p (both b key) _ (EW.tab 3 4 rfl rfl) (zK _ _)).mono ?_;rintro ai A4⟨rfl,sy⟩;refine aex ?_;intro EW;go_wp2_with (refine EW.g0.zdP rfl rfl rfl rfl zd ga gv (zj _) ?_);intro A4 aF oE;have MV:=zi EW.bel oE ae;go_wp2;refine aF.result rfl rfl rfl zd gv ⟨rfl,?_⟩;rw[IZ.o];exact MV
def Lh(q p:Nat)(a:UInt8)(w:World)(ht:Tab w q p):C_e 143 #[pa_ q,B a] w (B (at8 a0s a.toNat)):=by have az:=ht.zhz;have A3:=zc ht;clear ht;go_enter func143,ntmps143;go_wp2_with fail;refine(Fk p a0s a _ j4 A3.boxes).mono ?_;rintro ai A4⟨rfl,rfl⟩;exact ahv
structure Qy(w:World)(ao:OA)(ks:List (La_)):Prop where
 each:∀k∈ks,k.length=16
 lies:zr w ao ((ks.flatten).map B)
def Xz(n:Nat):∀(ks:List (La_))(i j:Nat)(k:La_),(∀k∈ks,k.length=n)->ks[i]? = some k->j<n->ks.flatten[n*i+j]? = k[j]?
 | [],_,_,_,_,h,_=>by simp at h
 | x::r,0,j,k,he,h,hj=>by
  simp at h;subst h;rw[za4,Nat.mul_zero,zbt,List.getElem?_append_left (by rw[he x (by simp)];exact hj)]
 | x::r,i+1,j,k,he,h,hj=>by
  rw[List.getElem?_cons_succ] at h;rw[za4,List.getElem?_append_right (by rw[he x (by simp),zdK];omega),he x ab,show n*(i+1)+j-n=n*i+j by rw[zdK];omega];exact Xz n r i j k (λk hk=>he k (zaN _ hk)) h hj
def Qy.range(h:Qy w ao ks){i:Nat}{k:La_}(hi:ks[i]? = some k):∃b off,ao=some ⟨b,off,none⟩/\b<w.heap.size/\w.rangeAt b (off+i*16) (k.map B):=by
 have aQ:=h.each k (zad hi);have oK:∀j v,(k.map B)[j]? = some v->((ks.flatten).map B)[16*i+j]? = some v:=λj v hv=>by
  rw[zay] at hv |-;have aA:j<16:=by
   rcases zbl j 16 with h|h
   ·exact h
   ·rw[zaf ae] at hv;cases hv
  rw[Xz 16 ks i j k h.each hi aA];exact hv
 have ag:(k.map B)[0]? = some (B (at8 k 0)):=zX (a01 ae);obtain⟨b,off,rfl,az⟩:=h.lies _ _ (oK 0 _ ag);refine⟨b,off,rfl,block_lt_of_cell az,λj v hv=>?_⟩;obtain⟨ax,ay,ai,az⟩:=h.lies _ _ (oK j v hv);cases ai;rw[show off+i*16+j=off+(16*i+j) by omega];exact az
def VA(q p:Nat)(b:La_)(ao:OA)(n cap:Nat)(ks:List (La_))(w:World)(ht:Tab w q p)(hlb:b.length=16)(hn:ks.length=n)(hnb:n<=1099511627776)(hk:Qy w ao ks):C_b 125 #[.pointer (some ⟨q,0,none⟩),.agg (b.map B).toArray,.slice ao n cap] w (.agg ((rounds b ks).map B).toArray):=by
 have IU:=l_ b 16 hlb;refine ajJ hlb hn hk ?_;intro Nj Nl MM;refine afy ?_;intro EW MK ML;clear ht hlb hn hk;go_enter func125,ntmps125;go_wp2_with (refine aqD ?_);refine am7 ?_;intro A4 aF sy EW aB;go_wp2_with (refine aqB ?_);refine amb ?_;intro Ev aF sy EW aB;generalize M1:w.heap.size=MN at*;generalize A4.heap.size=MP at*;have IZ:=zc M1;clear M1;go_wp2;go_loopw [14] (λc wr=>∃(i:Nat)(x:La_),i<=n/\c=.int .i64 i/\x.length=16/\rounds x (ks.drop i)=rounds b ks/\St w MN wr [(MP,(zg 16).map B,144),(MN,x.map B,144),(p,a0s.map B,75),(q,.pointer (some ⟨p,0,none⟩)::(entries a0s).map W,68)]) (λc _=>n-(intOf c).toNat);case atStart=>exact⟨0,b,ae,rfl,Nj,rfl,EW⟩
 case round =>
  clear EW;obtain⟨i,x,aO,rfl,aH,he,eg⟩:=hrel;have EZ:=zc aH;have I5:=l_ x 16 aH;have EM:=zc he;have EW:=zc eg;clear aH he eg;by_cases aB:i<n
  ·obtain⟨k,Nm⟩:∃k,ks[i]? = some k:=⟨ks[i]' hG,by simp[Nl.o,aB]⟩
   have Nn:=MM.each k (zad Nm);have No:=l_ k 16 Nn;obtain⟨Np,Nq,rfl,Nr,Ns⟩:=MM.range Nm;have Nt:rounds x (ks.drop i)=rounds (round x k) (ks.drop (i+1)):=by
    rw[List.drop_eq_getElem_cons hG];rw[show ks[i]' hG=k by simpa[Nl.o,aB] using Nm];rfl
   have EM:=zc (Nt.symm.trans EM);have Nu:=zc (jB Ns EW.bel (by rw[<-IZ.o];exact Nr));clear Nt Ns Nm;go_wp2_with (first|(refine wpList_load_mid rfl 144 (.tmp 16) rfl Np (Nq+i*16) rfl _ _ Nu underlying144 rfl (by rw[No.o];exact zd.2) ?_)|(refine zf 144 ((zg 16).map B) _ rfl rfl zl rfl ?_));intro A4 aF Ey;have Ik:=EW.ne _ (zad (i:=0) rfl);simp only at Ik;have EW:=zc (EW.push aF Ey);clear Ey;generalize wr.heap.size=Nh at*;go_wp2_with (refine EW.g0.zdP rfl rfl rfl rfl zd ga No (zj _) ?_);refine amo ?_;intro A4 aF oE EW;go_wp2_with (first|(refine EW.g2.zdS rfl rfl rfl zd I5 ?_)|(refine EW.g0.zdS rfl rfl rfl zd No ?_));refine(Fo q p x k _ (EW.tab 3 4 rfl rfl) EZ Nn).mono ?_;refine asj EW ?_;intro A4 EW;have Nv:=l_ (round x k) 16 (Zc _ _);go_wp2_with (refine EW.g2.zdP rfl rfl rfl rfl zd I5 Nv (zj _) ?_);intro A4 aF oE;have eg:=EW.change 2 aF oE ae bq;have EW:=ha_ (St w MN A4 [(MP,(zg 16).map B,144),(MN,(round x k).map B,144),(p,a0s.map B,75),(q,.pointer (some ⟨p,0,none⟩)::(entries a0s).map W,68)]) ⟨eg.zeu,eg.bel,λe he=>eg.all e (zaN _ he)⟩;clear eg;go_wp2;go_roundw;case rel=>exact⟨i+1,_,ae,rfl,Zc _ _,EM,EW⟩
   case measure=>simp[intOf];omega
  ·obtain rfl:i=n:=ae;have IV:x=rounds b ks:=by
    have:=EM.o;rw[zak (by rw[Nl.o];exact zab _)] at this;exact this
   have IW:=zc IV;clear IV;go_wp2_with (first|(refine EW.g1.zdS rfl rfl rfl zd I5 ?_)|(refine EW.g0.zdP rfl rfl rfl rfl zd ga I5 (zj _) ?_));intro A4 aF oE;have MV:=zi EW.bel oE ae;go_wp2;refine aF.result rfl rfl rfl zd I5 ⟨by rw[IW.o],?_⟩;rw[IZ.o];exact MV
def yS:Row pgm 204 4:=⟨e0,e0⟩
def wj:(pgm.info? 204).map (·.zero)=some (some (.agg ((zg 4).map B).toArray)):=e0
def u0:(pgm.underlying 5).map (·.isRow)=some false:=e0
def Fp(n:Int)(w:World)(h:n≠32/\n≠16/\n≠24):C_e 118 #[.int .i64 n] w (.tuple #[.int .i64 0,.bool false,.int .i64 2]):=by have ag:(n==32)=false:=beq_eq_false_iff_ne.2 h.1;have ag:(n==16)=false:=beq_eq_false_iff_ne.2 h.2.1;have ag:(n==24)=false:=beq_eq_false_iff_ne.2 h.2.2;exact as0
def Fq(w:World):C_e 118 #[.int .i64 32] w (.tuple #[.int .i64 8,.bool true,.int .i64 0]):=by exact as0
def Fs(w:World):C_e 118 #[.int .i64 16] w (.tuple #[.int .i64 4,.bool false,.int .i64 0]):=by exact as0
def Ft(w:World):C_e 118 #[.int .i64 24] w (.tuple #[.int .i64 6,.bool false,.int .i64 0]):=by exact as0
def nO(q p:Nat)(x:La_)(w:World)(ht:Tab w q p)(hx:x.length=4):C_b 121 #[.pointer (some ⟨q,0,none⟩),.agg (x.map B).toArray] w (.agg ((zgx x).map B).toArray):=by
 have EZ:=zc hx;have Nw:=l_ x 4 hx;refine afy ?_;intro EW MK ML;clear ht hx;go_enter func121,ntmps121;go_wp2_with (refine zh 204 _ (x.map B) _ rfl rfl rfl rfl ?_);refine am7 ?_;intro A4 aF sy EW aB;go_wp2_with (refine zf 204 ((zg 4).map B) _ rfl rfl wj rfl ?_);refine amb ?_;intro Ev aF sy EW aB;generalize M1:w.heap.size=MN at*;generalize A4.heap.size=MP at*;have IZ:=zc M1;clear M1;go_wp2_with (refine EW.g1.zdS rfl rfl rfl yS Nw ?_);go_loopw [8] (λc wr=>∃(i:Nat)(l:La_),i<=4/\c=.int .i64 i/\yv (λi=>at8 a0s (at8 x i).toNat) 4 i l/\St w MN wr [(MP,(zg 4).map B,204),(MN,l.map B,204),(p,a0s.map B,75),(q,.pointer (some ⟨p,0,none⟩)::(entries a0s).map W,68)]) (λc _=>4-(intOf c).toNat);case atStart=>exact⟨0,x,ae,rfl,yv.zero EZ,EW⟩
 case round =>
  clear EW;obtain⟨i,l,aO,rfl,I1,eg⟩:=hrel;have I3:=zc I1;have EW:=zc eg;clear I1 eg;by_cases aB:i<4
  ·have Nx:=λ(w':World)=>qn (P:=pgm) w' 204 5 4 (x.map B).toArray .i64 i (B (at8 x i)) underlying204 u0 zm (by rw[List.getElem?_toArray];exact zX (a01 (by rw[EZ.o];exact aB))) aB;obtain⟨er,et⟩:=I3.at aB;clear et;go_wp2_with fail;refine(Lh q p (at8 x i) _ (EW.tab 2 3 rfl rfl)).mono ?_;rintro ai A4⟨rfl,rfl⟩;obtain⟨er,et⟩:=I3.at aB;have az:=EW.g1.cell i _ (zX et);have eP:=EW.g1.free i;clear et Nx;go_wp2;have aF:=EW.g1.set i (B (at8 a0s (at8 x i).toNat));rw[yD] at aF;have eg:=EW.change 1 aF (Only.setCell _ ⟨MN,i,none⟩ _) ae bq;go_roundw;case rel=>exact⟨i+1,_,ae,rfl,I3.step aB,eg⟩
   case measure=>simp[intOf];omega
  ·obtain rfl:i=4:=ae;have EM:=ha_ (l=zgx x) I3.all;have A0:=l_ l 4 I3.1;go_wp2_with (first|(refine EW.g1.zdS rfl rfl rfl yS A0 ?_)|(refine EW.g0.zdP rfl rfl rfl rfl yS hH A0 (zj _) ?_));intro A4 aF oE;have MV:=zi EW.bel oE ae;go_wp2;refine aF.result rfl rfl rfl yS A0 ⟨g7,?_⟩;rw[IZ.o];exact MV
def Fu(a b:La_)(w:World)(ha:a.length=4)(hb:b.length=4):C_b 122 #[.agg (a.map B).toArray,.agg (b.map B).toArray] w (.agg ((a08 a b).map B).toArray):=by
 have IT:=zc ha;have IU:=zc hb;refine aeC ?_;intro EW;clear ha hb;go_enter func122,ntmps122;go_wp2_with (refine zh 204 _ (a.map B) _ rfl rfl rfl rfl ?_);refine amf ?_;intro A4 hb sy EW aB;go_wp2_with (refine zh 204 _ (b.map B) _ rfl rfl rfl rfl ?_);refine amt ?_;intro Ev hb sy EW aB;go_wp2_with (refine zf 204 ((zg 4).map B) _ rfl rfl wj rfl ?_);refine anw EW ?_;intro IX hb sy EW aB;generalize M1:w.heap.size=MN at*;generalize A4.heap.size=MO at*;generalize Ev.heap.size=MP at*;have IZ:=zc M1;clear M1;go_wp2;go_loopw [6] (λc wr=>∃(j:Nat)(l:La_),j<=4/\c=.int .i64 j/\l.length=4/\(∀i,i<j->l[i]? = some (yj (at8 a i) (at8 b i)))/\(∀i,j<=i->l[i]? = a[i]?)/\St w MN wr [(MP,(zg 4).map B,204),(MO,b.map B,204),(MN,l.map B,204)]) (λc _=>4-(intOf c).toNat);case atStart=>exact⟨0,a,ae,rfl,IT,λi hi=>absurd hi ae,λi _=>rfl,EW⟩
 case round =>
  clear EW;obtain⟨j,l,aA,rfl,Ld,aR,Ec,eg⟩:=hrel;refine ajJ Ld aR eg ?_;intro M3 A0 EW;by_cases aB:j<4
  ·have aH:l[j]? = some (at8 a j):=by rw[Ec j (zab _)];exact a01 (by rw[IT.o];omega)
   have az:=λ(x:zL wr.drew)=>((eg.drew.later x.later).get 2 rfl).cell j _ (zX aH);have AV:=λ(x:zL wr.drew)=>((eg.drew.later x.later).get 1 rfl).cell j _ (zX (a01 (b:=b) (i:=j) (by rw[IU.o];omega)));have ER:=zc Ec;clear Ld aR Ec eg aH;go_wp2_with fail;refine agd ?_;rintro A4 rfl;refine mqR ?_;clear az AV;refine aeA ?_;intro K hK;refine(EW.drew.get 2 rfl).zd8 (v:=B (yj (at8 a j) (at8 b j))) rfl rfl rfl zm rfl rfl fo (λw5 hb5 ho5=>hK _ _ ?_);clear hK K;rw[yD] at hb5;have EX:=zc (EW.drew.change 2 hb5 ho5 ae bq);clear ho5 hb5;refine aeS ?_;go_wp2;go_roundw;case rel =>
    refine⟨j+1,_,ae,rfl,by simpa using M3.o,λi hi=>?_,λi hi=>?_,EX⟩
    ·rw[List.getElem?_set];exact asJ
    ·rw[zaX ae];exact ER i ae
   case measure=>simp[intOf];omega
  ·obtain rfl:j=4:=ae;have EM:=ha_ (l=a08 a b) (yv.all (f:=λi=>yj (at8 a i) (at8 b i)) ⟨Ld,aR⟩);have A0:=l_ l 4 Ld;clear Ld aR Ec eg;go_wp2_with (first|(refine EW.g2.zdS rfl rfl rfl yS A0 ?_)|(refine EW.g0.zdP rfl rfl rfl rfl yS hH A0 (zj _) ?_));intro A4 aF oE;have ED:=zi EW.bel oE ae;go_wp2;refine aF.result rfl rfl rfl yS A0 ⟨g7,?_⟩;exact ahj
def nP(a b:La_)(w:World)(ha:a.length=16)(hb:b.length=16):C_b 126 #[.agg (a.map B).toArray,.agg (b.map B).toArray] w (.agg ((both a b).map B).toArray):=by have IT:=zc ha;have IU:=zc hb;refine aeC ?_;intro EW;have Nd:=zc (Vg a b ha hb);clear ha hb;go_enter func126,ntmps126;exact asW
structure y7(n:Nat)(w:World)(ao:OA)(ks:List (La_)):Prop where
 each:∀k∈ks,k.length=n
 lies:zr w ao ((ks.flatten).map B)
def y7.below{n:Nat}(h:y7 n w ao ks)(hb:Below w.heap.size w w'):y7 n w' ao ks:=⟨h.each,h.lies.below hb⟩
def y7.range{n:Nat}(h:y7 n w ao ks)(hn:0<n){i:Nat}{k:La_}(hi:ks[i]? = some k):∃b off,ao=some ⟨b,off,none⟩/\b<w.heap.size/\w.rangeAt b (off+i*n) (k.map B):=by
 have aQ:=h.each k (zad hi);have oK:∀j v,(k.map B)[j]? = some v->((ks.flatten).map B)[n*i+j]? = some v:=λj v hv=>by
  rw[zay] at hv |-;have aA:j<n:=by
   rcases zbl j n with h|h
   ·exact h
   ·rw[zaf ae] at hv;cases hv
  rw[Xz n ks i j k h.each hi aA];exact hv
 have ag:(k.map B)[0]? = some (B (at8 k 0)):=zX (a01 ae);obtain⟨b,off,rfl,az⟩:=h.lies _ _ (oK 0 _ ag);refine⟨b,off,rfl,block_lt_of_cell az,λj v hv=>?_⟩;obtain⟨ax,ay,ai,az⟩:=h.lies _ _ (oK j v hv);cases ai;rw[show off+i*n+j=off+(n*i+j) by rw[Nat.mul_comm i n];omega];exact az
def B5(ao:OA)(cap:Nat)(ks:List (La_))(w:World)(hn:ks.length=4)(hk:y7 4 w ao ks):C_b 123 #[.slice ao 4 cap] w (.agg ((ks.flatten).map B).toArray):=by
 have Nz:ks.flatten.length=16:=by
  match ks,hn with
  | [a,b,c,d],_=>simp[hk.each a ab,hk.each b ab,hk.each c ab,hk.each d ab]
 refine ajJ Nz hn hk ?_;intro NA Nl MM;refine aeC ?_;intro EW;clear hn hk Nz;go_enter func123,ntmps123;go_wp2_with (refine aqB ?_);refine am7 ?_;intro A4 aF sy EW aB;go_wp2_with (refine aqB ?_);refine amb ?_;intro Ev aF sy EW aB;generalize M1:w.heap.size=MP at*;generalize A4.heap.size=MQ at*;have IZ:=zc M1;clear M1;go_wp2;go_loopw [8] (λc wr=>∃(i:Nat)(l:La_),i<=4/\c=.int .i64 i/\yv (λj=>at8 ks.flatten j) 16 (4*i) l/\St w MP wr [(MQ,l.map B,144),(MP,(zg 16).map B,144)]) (λc _=>4-(intOf c).toNat);case atStart=>exact⟨0,zg 16,ae,rfl,yv.zero (ze _),EW⟩
 case round =>
  clear EW;obtain⟨i,l,aO,rfl,I1,eg⟩:=hrel;have I3:=zc I1;have EW:=zc eg;clear I1 eg;by_cases aB:i<4
  ·obtain⟨k,Nm⟩:∃k,ks[i]? = some k:=⟨ks[i]' hG,by simp[Nl.o,aB]⟩
   have aQ:=MM.each k (zad Nm);have No:=l_ k 4 aQ;obtain⟨Np,Nq,rfl,Nr,Ns⟩:=MM.range ae Nm;have Nu:=zc (jB Ns EW.bel (by rw[<-IZ.o];exact Nr));have EJ:=ha_ (∀j,j<4->k[j]? = some (at8 ks.flatten (4*i+j))) (λj hj=>by
    rw[<-Xz 4 ks i j k MM.each Nm hj];exact a01 (by rw[NA.o];omega))
   clear Ns Nm;go_wp2_with (first|(refine wpList_load_mid rfl 204 (.tmp 11) rfl Np (Nq+i*4) rfl _ _ Nu underlying204 rfl (by rw[No.o];exact yS.2) ?_)|(refine zf 204 ((zg 4).map B) _ rfl rfl wj rfl ?_));intro A4 aF Ey;have Ik:=EW.ne _ (zad (i:=0) rfl);simp only at Ik;have EW:=zc (EW.push aF Ey);clear Ey;generalize wr.heap.size=Nh at*;go_wp2_with (refine EW.g0.zdP rfl rfl rfl rfl yS hH No (zj _) ?_);refine amo ?_;intro A4 aF oE EW;have N0:=λ(w':World)=>xz (P:=pgm) w' 144 5 16 underlying144 zm MQ 0 (4*i) (4*(i:Int)) rfl ae;rw[zbt] at N0;go_wp2_with fail;refine zp [0,1,2,3,4] e0 e0 ?_;rintro A4 rfl;refine aiG ?_;intro K hK;refine(EW.drew.get 1 rfl).zeV (4*i) (k.map B) rfl rfl rfl underlying23 zm (λ_=>rfl) (EW.drew.get 0 rfl).lies (by rw[No.o];exact(zbF (by omega)).symm) (by rw[zaa,zaa,aQ,I3.1];omega) (zj _) (λw12 zfs zfM=>hK _ _ ?_);clear hK K N0;rw[qN] at zfs;have N1:=I3.splice (m:=4) (cs:=k) ae aQ EJ;have I3:=ha_ (yv (λj=>at8 ks.flatten j) 16 (4*(i+1)) (splice l (4*i) k)) N1;have Ni:=EW.drew.change 1 zfs zfM ae bq;have EW:=ha_ (St w MP w12 [(MQ,(splice l (4*i) k).map B,144),(MP,(zg 16).map B,144)]) ⟨Ni.zeu,Ni.bel,λe he=>Ni.all e (zaN _ he)⟩;clear zfs zfM N1 Ni;refine aeS ?_;go_wp2;go_roundw;case rel=>exact⟨i+1,_,ae,rfl,I3,EW⟩
   case measure=>simp[intOf];omega
  ·obtain rfl:i=4:=ae;have he:l=ks.flatten:=by
    have aR:=I3.1;apply zaK;intro j;by_cases hj:j<16
    ·rw[I3.2 j hj];exact(a01 (by rw[NA.o];exact hj)).symm
    ·rw[zaf ae,zaf (by rw[NA.o];omega)]
   have EM:=zc he;have A0:=l_ l 16 I3.1;clear he;go_wp2_with (first|(refine EW.g0.zdS rfl rfl rfl zd A0 ?_)|(refine EW.g1.zdP rfl rfl rfl rfl zd ga A0 (zj _) ?_));intro A4 aF oE;have MV:=zi EW.bel oE ae;go_wp2;refine aF.result rfl rfl rfl zd A0 ⟨g7,?_⟩;rw[IZ.o];exact MV
def Qw(ao:OA)(cap lo size:Nat):OA:=if cap=lo then ao else ao.map (·.add (lo*size))
def nQ{P:Program}(w:World)(t e:TypeId)(size:Nat)(ht:P.underlying t=some (.slice e))(hs:(P.info? e).map (·.size)=some size)(ao:OA)(len cap lo hi:Nat)(i j:Int)(hi':i=lo)(hj:j=hi)(h1:lo<=hi)(h2:hi<=cap):(Instr.slice t (.slice ao len cap) (some (.int .i64 i)) (some (.int .i64 j)) none).run P w=.ok (.slice (Qw ao cap lo size) (hi-lo) (cap-lo)) w:=by
 subst hi';subst hj;cases hq:P.info? e with
 | none=>rw[hq] at hs;cases hs
 | some x =>
  exact arI
def JQ(n:Nat):∀(ks:List (La_))(lo:Nat),(∀k∈ks,k.length=n)->(ks.drop lo).flatten=ks.flatten.drop (lo*n)
 | [],lo,_=>by simp
 | x::r,0,_=>by simp
 | x::r,lo+1,h=>by
  have hx:=h x ab;rw[List.drop_succ_cons,JQ n r lo (λk hk=>h k (zaN _ hk)),za4,List.drop_append,hx,show x.drop ((lo+1)*n)=[] from zak (by rw[hx,zbc];omega),zaB,zbc,zbZ,zcE]
def JR(n:Nat):∀(ks:List (La_))(m:Nat),(∀k∈ks,k.length=n)->(ks.take m).flatten=ks.flatten.take (m*n)
 | [],m,_=>by simp
 | x::r,0,_=>by simp
 | x::r,m+1,h=>by
  rw[List.take_succ_cons,za4,JR n r m (λk hk=>h k (zaN _ hk)),za4,List.take_append,h x ab,show x.take ((m+1)*n)=x from zai (by rw[h x (by simp),zbc];omega),zbc,zbZ,zcE]
def vw(n:Nat):∀(ks:List (La_)),(∀k∈ks,k.length=n)->ks.flatten.length=ks.length*n
 | [],_=>by simp
 | x::r,h=>by
  rw[za4,zac,h x ab,vw n r (λk hk=>h k (zaN _ hk)),List.length_cons,zbc,zbZ,Nat.add_comm]
def y7.cut{n:Nat}(h:y7 n w ao ks)(hc:ks.length<=cap)(lo m:Nat):y7 n w (Qw ao cap lo n) ((ks.drop lo).take m):=by
 have ah:∀k∈ks.drop lo,k.length=n:=λk hk=>h.each k (zcZ hk);refine⟨λk hk=>ah k (zc0 hk),?_⟩;rw[JR n _ m ah,JQ n _ lo h.each];unfold Qw;by_cases ai:cap=lo
 ·rw[if_pos ai,show ks.flatten.drop (lo*n)=[] from zak (by rw[vw n ks h.each];exact Nat.mul_le_mul_right n (by omega))];simp only[List.take_nil,List.map_nil];exact zr.nil _ _
 ·rw[if_neg ai];have:=(h.lies.drop (lo*n)).take (m*n)
  rwa [<-List.map_drop,<-List.map_take] at this
def nR:(pgm.info? 144).map (·.size)=some 16:=e0
structure jk(w:World)(kp q p:Nat)(ks:List (La_))(kb zed n cap:Nat):Prop where
 tab:Tab w q p
 len:ks.length=n
 two:2<=n
 zgF:n<=cap
 most:n<=1000
 rows:y7 16 w (some ⟨kb,zed,none⟩) ks
 blk:Blk w kp [.pointer (some ⟨q,0,none⟩),.slice (some ⟨kb,zed,none⟩) n cap] 211
def jk.later{p:Nat}{n:Nat}(h:jk w kp q p ks kb zed n cap)(hb:Below w.heap.size w w'):jk w' kp q p ks kb zed n cap :=
 ⟨h.tab.below hb (zab _),h.len,h.two,h.zgF,h.most,h.rows.below hb,h.blk.below hb h.blk.lt⟩
def jk.only{p:Nat}{n c:Nat}(h:jk w kp q p ks kb zed n cap)(ho:Only c w w')(h1:kp≠c)(h2:q≠c)(h3:p≠c)(h4:kb≠c):jk w' kp q p ks kb zed n cap:=by refine⟨h.tab.only ho h3 h2,h.len,h.two,h.zgF,h.most,⟨h.rows.each,λj u hu=>?_⟩,h.blk.only ho h1⟩;obtain⟨ax,ay,ai,az⟩:=h.rows.lies j u hu;cases ai;refine⟨kb,zed,rfl,?_⟩;have aF:=ho.block kb h4;simp only[World.cell?] at az |-;rw[aF];exact az
def jk.drew{p:Nat}{n:Nat}(h:jk w kp q p ks kb zed n cap):jk w.drew kp q p ks kb zed n cap:=h.later (Below.refl _ _).drew
def jk.zfw{p:Nat}{n:Nat}(h:jk w kp q p ks kb zed n cap)(i:Nat)(hi:i<n):(key ks i).length=16:=h.rows.each _ (zad (jI (by rw[h.len];exact hi)))
def jk.range{p:Nat}{n:Nat}(h:jk w kp q p ks kb zed n cap)(i:Nat)(hi:i<n):w.rangeAt kb (zed+i*16) ((key ks i).map B)/\kb<w.heap.size:=by obtain⟨ax,ay,ai,aF,eI⟩:=h.rows.range ae (jI (i:=i) (by rw[h.len];exact hi));cases ai;exact⟨eI,aF⟩
def u5(kp q p:Nat)(ks:List (La_))(kb zed n cap:Nat)(b:La_)(w:World)(hk:jk w kp q p ks kb zed n cap)(hb:b.length=16):C_b 106 #[pa_ kp,.agg (b.map B).toArray] w (.agg ((enc ks b).map B).toArray):=by
 refine aiW ?_;intro IU Nj EW Ng NB NC MR aD ND NF MM;have EM:=ha_ (enc ks b=last (rounds (both b (key ks 0)) ((ks.drop 1).take (n-2))) (key ks (n-1))) (by rw[<-hk.len];rfl);clear hb hk;go_enter func106,ntmps106;go_wp2_with (refine aqD ?_);refine anz EW MM ?_;intro A4 hb sy EW MM aB;go_wp2_with (refine aqB ?_);refine anz EW MM ?_;intro w2 hb sy EW MM aB;generalize M1:w.heap.size=MN at*;generalize A4.heap.size=MP at*;refine arD ?_;intro IZ az AV ah;clear M1;have N0:=λ(w':World)=>nQ (P:=pgm) w' 209 144 16 underlying209 nR (some ⟨kb,zed,none⟩) n cap 1 (n-1) 1 ((n:Int)-1) rfl ae ae ae;go_wp2_with fail;refine zp [0,1,2,3,4,5,6,7,8,9,10,12,13,14,15,16,17,11,18,19] e0 e0 ?_;rintro A4 rfl;refine as6 ?_;iterate 5 refine m1R ?_
 have eI:=(MM.drew.range 0 ae).1;rw[zcj,zci] at eI;refine as7 ?_;iterate 6 refine m1R ?_
 refine Pm ?_;intro K hK;refine(nP b (key ks 0) _ Nj (MM.zfw 0 ae)).mono ?_;rintro ai A4⟨rfl,sy⟩;have EW:=zc (EW.drew.later sy);have MM:=zc (MM.drew.later sy);refine aeN ?_;clear hK K az AV N0 eI ah;refine Pm ?_;intro K hK;have NG:=MM.rows.cut (cap:=cap) (by rw[MM.len];exact ND) 1 (n-2);refine(VA q p (both b (key ks 0)) (Qw (some ⟨kb,zed,none⟩) cap 1 16) (n-1-1) (cap-1) ((ks.drop 1).take (n-2)) _ MM.tab (zK _ _) (by rw[zam,zan,MM.len];omega) ae ⟨NG.each,NG.lies⟩).mono ?_;clear NG;have NH:=kL ((ks.drop 1).take (n-2)) (both b (key ks 0)) (zK _ _);have Nv:=l_ (rounds (both b (key ks 0)) ((ks.drop 1).take (n-2))) 16 NH;rintro ai A4⟨rfl,sy⟩;generalize rounds (both b (key ks 0)) ((ks.drop 1).take (n-2))=x at*;refine aex ?_;intro EW;have MM:=zc (MM.later sy);refine ame ?_;clear hK K;refine aeA ?_;intro K hK;refine EW.g1.zd4 rfl rfl rfl zd IU Nv (zj _) (λw7 hb7 ho7=>hK _ _ ?_);refine arZ ?_;intro MM EW;clear hK K hb7 ho7;have az:=λ(x:zL w7.drew)=>(MM.drew.later x.later).blk.cell 0 _ rfl;have AV:=λ(x:zL w7.drew)=>(MM.drew.later x.later).blk.cell 1 _ rfl;go_wp2_with fail;refine ahE ?_;rintro A4 rfl;iterate 4 refine m1R ?_
 refine am5 EW Nv ?_;intro K hK;refine ali ?_;clear hK K;refine arJ ?_;intro K hK;refine ali ?_;clear hK K;refine Pm ?_;intro K hK;refine(Lg q p x (key ks (n-1)) _ MM.tab.drew NH (MM.zfw (n-1) ae)).mono ?_;rintro ai A4⟨rfl,sy⟩;rw[<-EM.o];have EW:=zc (EW.drew.later sy);refine aeN ?_;clear hK K az AV;refine aeA ?_;intro K hK;refine EW.g0.zd4 rfl rfl rfl zd ga (by rw[zaa];exact qw _ _) (zj _) (λw10 zfk ze2=>hK _ _ ?_);clear hK K;have Eu:=zi EW.bel ze2 ae;refine aeS ?_;go_wp2;refine zfk.result rfl rfl rfl zd (by rw[zaa];exact qw _ _) ⟨rfl,?_⟩;exact ah7
def Fv(kp q p:Nat)(ks:List (La_))(kb zed n cap:Nat)(b:La_)(w:World)(hk:jk w kp q p ks kb zed n cap)(hb:b.length=16):C_b 219 #[.pointer (some ⟨kp,0,none⟩),.agg (b.map B).toArray] w (.agg ((dec ks b).map B).toArray):=by
 refine aiW ?_;intro IU Nj EW Ng NB NC MR aD ND NF MM;have EM:=ha_ (dec ks b=both (YQ ks (n-1) (wO b (key ks (n-1)))) (key ks 0)) (by rw[<-hk.len];rfl);clear hb hk;go_enter func219,ntmps219;go_wp2_with (refine aqD ?_);refine anz EW MM ?_;intro A4 hb sy EW MM aB;go_wp2_with (refine aqB ?_);refine anz EW MM ?_;intro w2 hb sy EW MM aB;generalize M1:w.heap.size=MN at*;generalize A4.heap.size=MP at*;refine arD ?_;intro IZ az AV ah;clear M1;have oV:(n:Int)-1=((n-1:Nat):Int):=ae;go_wp2_with fail;refine ahE ?_;rintro A4 rfl;refine as6 ?_;refine arJ ?_;intro K hK;refine ali ?_;clear hK K;refine Pm ?_;intro K hK;refine(B4 q p b (key ks (n-1)) _ MM.tab.drew Nj (MM.zfw (n-1) ae)).mono ?_;rintro ai Ev⟨rfl,sy⟩;have EW:=zc (EW.drew.later sy);have MM:=zc (MM.drew.later sy);refine aeN ?_;clear hK K az AV ah;refine aeA ?_;intro K hK;refine EW.g1.zd4 rfl rfl rfl zd IU (by rw[zaa];exact vZ _ _) (zj _) (λw7 hb7 ho7=>hK _ _ ?_);refine arZ ?_;intro MM EW;clear hK K hb7 ho7;go_wp2_with fail;go_loopw [5] (λc wr=>∃(i:Nat)(x:La_),1<=i/\i<=n-1/\c=.int .i64 i/\x.length=16/\YQ ks i x=YQ ks (n-1) (wO b (key ks (n-1)))/\jk wr kp q p ks kb zed n cap/\St w MN wr [(MP,(zg 16).map B,144),(MN,x.map B,144)]) (λc _=>(intOf c).toNat);case atStart=>exact⟨n-1,wO b (key ks (n-1)),ae,ae,by rw[<-oV],vZ _ _,rfl,MM,EW⟩
 case round =>
  clear EW MM;obtain⟨i,x,aO,ig,rfl,aH,aJ,hk,eg⟩:=hrel;have EZ:=zc aH;have Nw:=l_ x 16 aH;refine ajJ aJ hk eg ?_;intro NI MM EW;clear aH aJ hk eg;by_cases aB:1<i
  ·have eh:(i:Int)-1=((i-1:Nat):Int):=ae;have NI:=zc ((KK ks i x aB).symm.trans NI);have az:=λ(x:zL wr.drew)=>(MM.drew.later x.later).blk.cell 0 _ rfl;have AV:=λ(x:zL wr.drew)=>(MM.drew.later x.later).blk.cell 1 _ rfl;go_wp2_with fail;refine ahE ?_;rintro A4 rfl;iterate 4 refine m1R ?_
   refine am5 EW Nw ?_;intro K hK;refine ali ?_;clear hK K;iterate 6 refine m1R ?_
   refine zB (MM.drew.range (i-1) ae).1 (MM.drew.range (i-1) ae).2 zd (by rw[zaa];exact MM.zfw (i-1) (by omega)) rfl rfl rfl rfl (λK hK=>?_);refine ali ?_;clear hK K;refine Pm ?_;intro K hK;refine(tu q p x (key ks (i-1)) _ MM.tab.drew EZ (MM.zfw (i-1) ae)).mono ?_;rintro ai Ev⟨rfl,sy⟩;have EW:=zc (EW.drew.later sy);have MM:=zc (MM.drew.later sy);refine aeN ?_;clear hK K az AV;refine aeA ?_;intro K hK;refine EW.g1.zd4 rfl rfl rfl zd Nw (by rw[zaa];exact j5 _ _) (zj _) (λw7 hb7 ho7=>hK _ _ ?_);refine arZ ?_;intro MM EW;clear hK K hb7 ho7;go_wp2;go_roundw;case rel=>exact⟨i-1,_,ae,ae,rfl,j5 _ _,NI,MM,EW⟩
   case measure=>simp[intOf];omega
  ·obtain rfl:i=1:=ae;have EM:=ha_ (dec ks b=both x (key ks 0)) (by rw[EM.o,<-NI.o];rfl);have AV:=λ(x:zL wr.drew)=>(MM.drew.later x.later).blk.cell 1 _ rfl;go_wp2_with fail;refine agd ?_;rintro A4 rfl;refine am5 EW Nw ?_;intro K hK;refine ali ?_;clear hK K;iterate 5 refine m1R ?_
   have eI:=(MM.drew.range 0 ae).1;rw[zcj,zci] at eI;refine as7 ?_;refine Pm ?_;intro K hK;refine(nP x (key ks 0) _ EZ (MM.zfw 0 ae)).mono ?_;rintro ai Ev⟨rfl,sy⟩;rw[<-EM.o];have EW:=zc (EW.drew.later sy);refine aeN ?_;clear hK K AV eI;refine aeA ?_;intro K hK;refine EW.g0.zd4 rfl rfl rfl zd ga (by rw[zaa];exact jN _ _) (zj _) (λw10 zfk ze2=>hK _ _ ?_);clear hK K;have Eu:=zi EW.bel ze2 ae;refine aeS ?_;go_wp2;refine zfk.result rfl rfl rfl zd (by rw[zaa];exact jN _ _) ⟨rfl,?_⟩;exact ah7


/- Laws. -/
import Derived.Test.YtkochfajaaiekaaGreatDoorY5
set_option linter.all false
set_option maxHeartbeats 16000000
set_option maxRecDepth 100000
open Int renaming cast_ofNat_Int->zco
open List renaming append_assoc->zal,drop->zb0,drop_append->zbn,drop_drop->zcf,drop_eq_nil_of_le->zak,drop_left->zbs,eq_nil_of_length_eq_zero->zaI,ext_getElem?->zaK,foldl_cons->zcl,foldl_nil->zcI,getD_cons_succ->zao,getD_cons_zero->zar,getElem?_append_right->za6,getElem?_eq_none->zaf,getElem?_set->zbb,length_append->zac,length_cons->zaj,length_drop->zan,length_map->zaa,length_set->zav,length_take->zam,map_append->zaD,map_congr_left->zcq,map_drop->zcb,map_take->zbW,mem_cons->zau,range->zax,replicate->zah,size_toArray->zbT,take->zcy,take_append_drop->zaS,take_left->zbo,take_of_length_le->zai
open Nat renaming add_mul_mod_self_right->zbV,le_mul_of_pos_left->zcV,le_of_lt->zbQ,le_refl->zab,le_trans->zat,lt_of_lt_of_le->za1,lt_trans->zdx,mod_eq_of_lt->zbG
open UInt32 renaming ofNat->zbg,toNat_ofNat_of_lt'->zaA
open UInt64 renaming ofNat->zae,toNat_inj->zaU,toNat_ofNat'->zbm,toNat_ofNat_of_lt'->zaR
namespace Go.Proofs.YtkochfajaaiekaaGreatDoor
open Go.Proofs.Tryz
open Go.Proofs.Tryz renaming prog->pgm
variable{a z:La_}{k:zx}{n i:Nat}{q:La_×La_}{row:List (La_)}{w:World}
abbrev xI:=List (La_×La_)
structure Msg where
 pairs:xI
 u:La_
 v:La_
 x:La_
 y:La_
def xR:Nat->La_->xI
 | 0,_=>[]
 | f+1,m=>if 32<=m.length then(block m,block (m.drop 16))::xR f (m.drop 32) else[]
def xT:Nat->La_->La_
 | 0,m=>m
 | f+1,m=>if 32<=m.length then xT f (m.drop 32) else m
def wR(m:La_):La_:=m.take (m.length-32)
def xY(m:La_)(ahead:Nat):La_:=block ((m.drop (m.length-ahead)).take 16)
def yV(m:La_):Msg :=
 ⟨xR m.length (wR m),(xT m.length (wR m)).take 16,(xT m.length (wR m)).drop 16,xY m 32,xY m 16⟩
def ya:xI->La_
 | []=>[]
 | p::r=>p.1++p.2++ya r
def qx(m:Msg):La_:=ya m.pairs++m.u++m.v++m.x++m.y
def wy(k:zx)(u v:La_):La_ :=
 if u.length=0 then zg 16 else if u.length=16 then plusB [zeF k 0 4 (block u),zeF k 0 5 (block (kz v 128 16))] else zeF k 0 4 (block (kz u 128 16))
def wOf(k:zx)(n:Nat)(p:La_×La_):La_:=plusB [p.1,zeF k 1 (n+1) p.2]
def xOf(k:zx)(n:Nat)(p:La_×La_):La_:=plusB [p.2,zeF k 0 0 (wOf k n p)]
def yE(k:zx):Nat->xI->xI
 | _,[]=>[]
 | n,p::r=>(wOf k n p,xOf k n p)::yE k (n+1) r
def js(k:zx):Nat->La_->xI->La_
 | _,s,[]=>s
 | n,s,p::r=>js k (n+1) (plusB [s,xOf k n p]) r
def yOf(k:zx)(z:La_)(n:Nat)(p:La_×La_):La_:=plusB [p.1,zeF k 2 (n+1) z]
def vOf(k:zx)(z:La_)(n:Nat)(p:La_×La_):La_:=plusB [p.2,zeF k 2 (n+1) z]
def kY(k:zx)(z:La_)(n:Nat)(p:La_×La_):La_:=plusB [yOf k z n p,zeF k 0 0 (vOf k z n p)]
def Zg(k:zx)(z:La_)(n:Nat)(p:La_×La_):La_:=plusB [vOf k z n p,zeF k 1 (n+1) (kY k z n p)]
def ym(k:zx)(z:La_):Nat->xI->xI
 | _,[]=>[]
 | n,p::r=>(Zg k z n p,kY k z n p)::ym k z (n+1) r
def qZ(k:zx)(z:La_):Nat->La_->xI->La_
 | _,s,[]=>s
 | n,s,p::r=>qZ k z (n+1) (plusB [s,yOf k z n p]) r
def pC(k:zx)(m:Msg):La_:=plusB [js k 0 (zg 16) m.pairs,wy k m.u m.v]
def sC(k:zx)(h:La_)(a:Nat)(m:Msg):La_:=plusB [m.x,h,pC k m,zeF k 0 a m.y]
def tC(k:zx)(a:Nat)(y s:La_):La_:=plusB [y,zfy k a s]
def uC(k:zx)(z u:La_):La_:=a0u u (zfy k 4 z)
def vC(k:zx)(z v:La_):La_:=a0u v (zfy k 5 z)
def qC(k:zx)(z:La_)(m:Msg):La_:=plusB [qZ k z 0 (zg 16) (yE k 0 m.pairs),wy k (uC k z m.u) (vC k z m.v)]
def yC(k:zx)(b:Nat)(s t:La_):La_:=plusB [s,zfy k b t]
def xC(k:zx)(h:La_)(b:Nat)(t q y:La_):La_:=plusB [t,h,q,zeF k 0 b y]
def fk(k:zx)(h:La_)(a b:Nat)(m:Msg):Msg :=
 let s:=sC k h a m;let t:=tC k a m.y s;let z:=plusB [s,t];let y':=yC k b s t
 ⟨ym k z 0 (yE k 0 m.pairs),uC k z m.u,vC k z m.v,xC k h b t (qC k z m) y',y'⟩
def Km(k:zx)(row:List (La_))(m:La_)(back:Bool):La_ :=
 qx (fk k (q8 k row) (if back=true then 2 else 1) (if back=true then 1 else 2) (yV m))
def qJ(p:La_×La_):Prop:=p.1.length=16/\p.2.length=16
structure Msg.Fit(m:Msg):Prop where
 pairs:∀p∈m.pairs,qJ p
 x:m.x.length=16
 y:m.y.length=16
 u:m.u.length<=16
 uv:m.u.length<16->m.v=[]
 v:m.v.length<16
def zdQ(l:List (La_)):(plusB l).length=16:=by
 have:∀(l:List (La_))(x:La_),x.length=16->(l.foldl both x).length=16:=by
  intro l;induction l with
  | nil=>intro x ag;exact ag
  | cons a r ih=>intro x ag;exact ih _ (zK _ _)
 exact this l _ (ze 16)
def XT(b:La_)(h:a.length=16):plusB [a,b]=both a b:=by simp only[plusB,zcl,zcI,QT h]
def UP(b c d:La_)(h:a.length=16):plusB [a,b,c,d]=both (both (both a b) c) d:=by simp only[plusB,zcl,zcI,QT h]
def DS(k:zx)(n:Nat){b:La_}(h:a.length=16):wOf k n (a,b)=both a (zeF k 1 (n+1) b):=XT _ h
def DT(k:zx)(n:Nat){b:La_}(h:b.length=16):xOf k n (a,b)=both b (zeF k 0 0 (wOf k n (a,b))):=XT _ h
def DU(k:zx)(z:La_)(n:Nat){b:La_}(h:a.length=16):yOf k z n (a,b)=both a (zeF k 2 (n+1) z):=XT _ h
def DV(k:zx)(z:La_)(n:Nat){b:La_}(h:b.length=16):vOf k z n (a,b)=both b (zeF k 2 (n+1) z):=XT _ h
def VX(k:zx)(z:La_)(n:Nat)(p:La_×La_):kY k z n p=both (yOf k z n p) (zeF k 0 0 (vOf k z n p)):=XT _ (zdQ _)
def ud(k:zx)(z:La_)(n:Nat)(p:La_×La_):Zg k z n p=both (vOf k z n p) (zeF k 1 (n+1) (kY k z n p)):=XT _ (zdQ _)
def KM(k:zx)(n:Nat)(p:La_×La_):(wOf k n p).length=16:=zdQ _
def KN(k:zx)(n:Nat)(p:La_×La_):(xOf k n p).length=16:=zdQ _
def KO(k:zx)(z:La_)(n:Nat)(p:La_×La_):(yOf k z n p).length=16:=zdQ _
def KP(k:zx)(z:La_)(n:Nat)(p:La_×La_):(vOf k z n p).length=16:=zdQ _
def Qe(k:zx)(z:La_)(n:Nat)(p:La_×La_):(Zg k z n p).length=16:=zdQ _
def XU(k:zx)(z:La_)(n:Nat)(p:La_×La_):(kY k z n p).length=16:=zdQ _
def sV:wOf k n (Zg k z n q,kY k z n q)=vOf k z n q:=by rw[DS _ _ (Qe _ _ _ _),ud,yH (KP _ _ _ _)]
def sW:xOf k n (Zg k z n q,kY k z n q)=yOf k z n q:=by rw[DT _ _ (XU _ _ _ _),sV,VX,yH (KO _ _ _ _)]
def BH(k:zx)(n:Nat)(p:La_×La_):qJ (wOf k n p,xOf k n p):=⟨zdQ _,zdQ _⟩
def DW{b:La_}(hb:b.length=16):yOf k z n (vOf k z n (a,b),yOf k z n (a,b))=b:=by rw[DU _ _ _ (KP _ _ _ _),DV _ _ _ hb,yH hb]
def DX{b:La_}(ha:a.length=16):vOf k z n (vOf k z n (a,b),yOf k z n (a,b))=a:=by rw[DV _ _ _ (KO _ _ _ _),DU _ _ _ ha,yH ha]
def VY{b:La_}(ha:a.length=16)(hb:b.length=16):kY k z n (vOf k z n (wOf k n (a,b),xOf k n (a,b)),yOf k z n (wOf k n (a,b),xOf k n (a,b)))=b:=by rw[VX,DW (KN _ _ _),DX (KM _ _ _),DT _ _ hb,yH hb]
def sX{b:La_}(ha:a.length=16)(hb:b.length=16):Zg k z n (vOf k z n (wOf k n (a,b),xOf k n (a,b)),yOf k z n (wOf k n (a,b),xOf k n (a,b)))=a:=by rw[ud,VY ha hb,DX (KM _ _ _),DS _ _ ha,yH ha]
def Jq:∀(ps:xI)(n:Nat),(∀p∈ps,qJ p) ->
  ym k z n (yE k n (ym k z n (yE k n ps)))=ps
 | [],_,_=>rfl
 | p::r,n,h=>by
  have hp:=h p ab;simp only[yE,ym];rw[sV,sW,sX hp.1 hp.2,VY hp.1 hp.2,Jq r (n+1) (λq hq=>h q (by simp[hq]))]
def fp:∀(ps:xI)(n:Nat)(s:La_),(∀p∈ps,qJ p) ->
  js k n s (ym k z n (yE k n ps))=qZ k z n s (yE k n ps)
 | [],_,_,_=>rfl
 | p::r,n,s,h=>by
  have hp:=h p ab;simp only[yE,ym,js,qZ];rw[sW,fp r (n+1) _ (λq hq=>h q (by simp[hq]))]
def ue:∀(ps:xI)(n:Nat)(s:La_),(∀p∈ps,qJ p) ->
  qZ k z n s (yE k n (ym k z n (yE k n ps)))=js k n s ps
 | [],_,_,_=>rfl
 | p::r,n,s,h=>by
  have hp:=h p ab;simp only[yE,ym,js,qZ];rw[sV,sW,DW (KN k n p),ue r (n+1) _ (λq hq=>h q (by simp[hq]))]
def Z1(k:zx)(z:La_):∀(ps:xI)(n:Nat),∀p∈ym k z n ps,qJ p
 | [],_,_,h=>by simp[ym] at h
 | q::r,n,p,h=>by
  simp only[ym,zau] at h;rcases h with rfl|h
  ·exact⟨zdQ _,zdQ _⟩
  ·exact Z1 k z r _ p h
def kZ(k:zx)(z:La_):∀(ps:xI)(n:Nat),(ym k z n ps).length=ps.length
 | [],_=>rfl
 | q::r,n=>by simp[ym,kZ k z r]
def kM(k:zx):∀(ps:xI)(n:Nat),(yE k n ps).length=ps.length
 | [],_=>rfl
 | q::r,n=>by simp[yE,kM k r]
def KQ(k:zx):∀(ps:xI)(n:Nat),∀p∈yE k n ps,qJ p
 | [],_,_,h=>by simp[yE] at h
 | q::r,n,p,h=>by
  simp only[yE,zau] at h;rcases h with rfl|h
  ·exact BH _ _ _
  ·exact KQ k r _ p h
def fq{h:La_}{a b:Nat}{m:Msg}(hm:m.Fit):(fk k h a b m).Fit:=by
 have aw:∀z,(uC k z m.u).length=m.u.length:=λz=>by unfold uC;rw[a00,xE];have:=hm.u;omega
 have aL:∀z,(vC k z m.v).length=m.v.length:=λz=>by unfold vC;rw[a00,xE];have:=hm.v;omega
 exact⟨Z1 _ _ _ _,zdQ _,zdQ _,by show(uC _ _ _).length<=16;rw[aw];exact hm.u,
  λh=>by
   have ag:(uC k _ m.u).length<16:=h;rw[aw] at ag;have aM:=hm.uv ag;apply zaI;show(vC k _ m.v).length=0;rw[aL,aM];rfl,
  by show(vC _ _ _).length<16;rw[aL];exact hm.v⟩
def sY{h:La_}{a b:Nat}{m:Msg}(hm:m.Fit):fk k h b a (fk k h a b m)=m:=by
 obtain⟨ej,eg⟩:=n_ (sC k h a m);obtain⟨ek,aW⟩:=n_ (tC k a m.y ej);obtain⟨ep,aT⟩:=n_ (plusB [ej,ek]);obtain⟨er,et⟩:=n_ (yC k b ej ek);obtain⟨ey,eA⟩:=n_ (qC k ep m);obtain⟨ef,aH⟩:=n_ (xC k h b ek ey er);have eB:ej.length=16:=by rw[eg];exact zdQ _
 have eC:ek.length=16:=by rw[aW];exact zdQ _
 have eD:er.length=16:=by rw[et];exact zdQ _
 have ai:fk k h a b m=⟨ym k ep 0 (yE k 0 m.pairs),uC k ep m.u,vC k ep m.v,ef,er⟩:=by
  rw[aH,eA,et,aT,aW,eg];rfl
 have aw:(uC k ep (uC k ep m.u))=m.u:=a0c (by rw[xE];exact hm.u);have aL:(vC k ep (vC k ep m.v))=m.v:=a0c (by rw[xE];have:=hm.v;omega)
 -- the middle of the way back
 have eE:pC k ⟨ym k ep 0 (yE k 0 m.pairs),uC k ep m.u,vC k ep m.v,ef,er⟩=ey:=by
  rw[eA];show plusB [js k 0 (zg 16) (ym k ep 0 (yE k 0 m.pairs)),_]=plusB [_,_];rw[fp _ _ _ hm.pairs]
 have eF:sC k h b ⟨ym k ep 0 (yE k 0 m.pairs),uC k ep m.u,vC k ep m.v,ef,er⟩=ek:=by
  unfold sC;rw[eE];show plusB [ef,h,ey,zeF k 0 b er]=ek;have eG:ef.length=16:=by rw[aH];exact zdQ _
  rw[UP _ _ _ eG,aH];unfold xC;rw[UP _ _ _ eC];generalize zeF k 0 b er=aj;rw[qh (both (both (both ek h) ey) aj) h ey,qh (both (both (both ek h) ey) aj) (both h ey) aj,Zw (both h ey) aj,<-qh,yH (zK _ _),qh ek h ey,yH eC]
 have eH:tC k b er ek=ej:=by
  unfold tC;rw[XT _ eD,et];unfold yC;rw[XT _ eB,yH eB]
 have aU:plusB [ek,ej]=ep:=by rw[aT,XT _ eC,XT _ eB,Zw]
 have et:yC k a ek ej=m.y:=by
  unfold yC;rw[XT _ eC,aW];unfold tC;rw[XT _ hm.y,yH hm.y]
 have eA:qC k ep ⟨ym k ep 0 (yE k 0 m.pairs),uC k ep m.u,vC k ep m.v,ef,er⟩=pC k m:=by
  show plusB [qZ k ep 0 (zg 16) (yE k 0 (ym k ep 0 (yE k 0 m.pairs))),wy k (uC k ep (uC k ep m.u)) (vC k ep (vC k ep m.v))]=_;rw[ue _ _ _ hm.pairs,aw,aL];rfl
 have aH:xC k h a ej (pC k m) m.y=m.x:=by
  unfold xC;rw[UP _ _ _ eB,eg];unfold sC;rw[UP _ _ _ hm.x];generalize zeF k 0 a m.y=aj;generalize pC k m=ey;rw[qh (both (both (both m.x h) ey) aj) h ey,qh (both (both (both m.x h) ey) aj) (both h ey) aj,Zw (both h ey) aj,<-qh,yH (zK _ _),qh m.x h ey,yH hm.x]
 rw[ai];unfold fk;rw[eF];show Msg.mk _ _ _ _ _=m;rw[show(Msg.y ⟨ym k ep 0 (yE k 0 m.pairs),uC k ep m.u,vC k ep m.v,ef,er⟩)=er from rfl,eH,aU,et,eA,aH];show Msg.mk (ym k ep 0 (yE k 0 (ym k ep 0 (yE k 0 m.pairs)))) (uC k ep (uC k ep m.u)) (vC k ep (vC k ep m.v)) m.x m.y=m;rw[Jq _ _ hm.pairs,aw,aL]
def ZF(m:La_)(h:16<=m.length):block m=m.take 16:=by
 apply zaK;intro aS;by_cases aO:aS<16
 ·rw[List.getElem?_take_of_lt aO,a01 (b:=m) ae];simp[block,aO]
 ·rw[zaf dd,zaf cr]
def ZG{m:La_}(h:m.length=16):block m=m:=by rw[ZF m (by omega),zai (by omega)]
def uf:∀(f:Nat)(m:La_),ya (xR f m)++xT f m=m
 | 0,_=>rfl
 | f+1,m=>by
  unfold xR xT;by_cases h:32<=m.length
  ·rw[if_pos h,if_pos h];show block m++block (m.drop 16)++ya _++_=m;rw[zal,uf f,ZF _ ae,ZF _ dj,zal];rw[show m.drop 32=(m.drop 16).drop 16 by rw[zcf],zaS,zaS]
  ·rw[if_neg h,if_neg h];rfl
def VZ:∀(f:Nat)(m:La_),m.length<32*(f+1)->(xT f m).length=m.length%32
 | 0,m,h=>by simp only[xT];omega
 | f+1,m,h=>by
  unfold xT;split
  ·rw[VZ f _ dj,zan];omega
  ·omega
def V0:∀(f:Nat)(m:La_),∀p∈xR f m,qJ p
 | 0,_,_,h=>by simp[xR] at h
 | f+1,m,p,h=>by
  unfold xR at h;split at h
  ·rw[zau] at h;rcases h with rfl|h
   ·exact⟨zI _,zI _⟩
   ·exact V0 f _ p h
  ·simp at h
def Zh:∀(ps:xI),(∀p∈ps,qJ p)->(ya ps).length=32*ps.length
 | [],_=>rfl
 | p::r,h=>by
  have hp:=h p ab;simp only[ya,zac,zaj,Zh r (λq hq=>h q (by simp[hq])),hp.1,hp.2];omega
def Vj{m:La_}(h:32<=m.length):(yV m).Fit:=by
 have eI:(xT m.length (wR m)).length<32:=by
  rw[VZ _ _ (by unfold wR;rw[zam];omega)];exact Nat.mod_lt _ ae
 refine⟨V0 _ _,zI _,zI _,?_,?_,?_⟩
 ·show(zcy 16 _).length<=16;rw[zam];omega
 ·intro ag;have ag:(zcy 16 (xT m.length (wR m))).length<16:=ag;rw[zam] at ag;exact zak ae
 ·show(zb0 16 _).length<16;rw[zan];omega
def Qf{m:La_}(h:32<=m.length):qx (yV m)=m:=by
 unfold qx yV;show ya (xR m.length (wR m))++zcy 16 (xT m.length (wR m))++zb0 16 (xT m.length (wR m))++xY m 32++xY m 16=m;rw[zal (ya _),zaS,uf];unfold wR xY;rw[ZG (by rw[zam,zan];omega),ZG (by rw[zam,zan];omega),zal];have ai:zcy 16 (zb0 (m.length-32) m)++zcy 16 (zb0 (m.length-16) m)=zb0 (m.length-32) m:=by
  rw[show m.length-16=(m.length-32)+16 by omega,<-zcf];rw[zai (l:=zb0 16 (zb0 (m.length-32) m)) (by rw[zan,zan];omega),zaS]
 rw[ai,zaS]
def ug:∀(ps:xI)(f:Nat)(r:La_),(∀p∈ps,qJ p)->r.length<32->ps.length<=f->xR f (ya ps++r)=ps/\xT f (ya ps++r)=r
 | [],f,r,_,hr,_=>by
  cases f with
  | zero=>exact⟨rfl,rfl⟩
  | succ f =>
   have e:ya []++r=r:=rfl;rw[e];unfold xR xT;rw[if_neg ae,if_neg ae];exact⟨rfl,rfl⟩
 | p::ps,f,r,hp,hr,hf=>by
  obtain⟨f,rfl⟩:∃g,f=g+1:=⟨f-1,by simp at hf;omega⟩
  have hpp:=hp p ab;have ih:=ug ps f r (λq hq=>hp q (by simp[hq])) hr (by simp at hf;omega);have hl:(ya (p::ps)++r)=p.1++(p.2++(ya ps++r)):=by simp[ya,zal]
  have eJ:32<=(p.1++(p.2++(ya ps++r))).length:=by simp[hpp.1,hpp.2];omega
  have aN:(p.1++(p.2++(ya ps++r))).drop 16=p.2++(ya ps++r):=by rw[<-hpp.1,zbs]
  have eK:(p.1++(p.2++(ya ps++r))).drop 32=ya ps++r:=by
   rw[show 32=16+16 from rfl,<-zcf,aN];rw[<-hpp.2,zbs]
  rw[hl];unfold xR xT;rw[if_pos eJ,if_pos eJ,eK,ih.1,ih.2,aN,ZF _ ae,ZF _ (by simp[hpp.2]),];refine⟨?_,rfl⟩;congr 1;rw[show(16:Nat)=p.1.length from hpp.1.symm,zbo,hpp.1,<-hpp.2,zbo]
def j9{m:Msg}(hm:m.Fit):(qx m).length=32*m.pairs.length+m.u.length+m.v.length+32:=by unfold qx;rw[zac,zac,zac,zac,Zh _ hm.pairs,hm.x,hm.y]
def mX{m:Msg}(hm:m.Fit):yV (qx m)=m:=by
 have aR:=j9 hm;obtain⟨eL,au,aK,ef,er⟩:=m;have aH:ef.length=16:=hm.x;have et:er.length=16:=hm.y;have eM:wR (qx ⟨eL,au,aK,ef,er⟩)=ya eL++(au++aK):=by
  unfold wR;have ai:qx ⟨eL,au,aK,ef,er⟩=(ya eL++(au++aK))++(ef++er):=by simp[qx,zal]
  rw[ai,show((ya eL++(au++aK))++(ef++er)).length-32=(ya eL++(au++aK)).length by simp[aH,et];omega,zbo]
 have eN:(au++aK).length<32:=by have ag:au.length<=16:=hm.u;have ag:aK.length<16:=hm.v;rw[zac];omega
 have eE:=ug eL (qx ⟨eL,au,aK,ef,er⟩).length (au++aK) hm.pairs eN (by rw[aR];show eL.length<=32*eL.length+au.length+aK.length+32;omega);have ag:xY (qx ⟨eL,au,aK,ef,er⟩) 32=ef:=by
  unfold xY;have ai:qx ⟨eL,au,aK,ef,er⟩=(ya eL++(au++aK))++(ef++er):=by simp[qx,zal]
  rw[ai,show((ya eL++(au++aK))++(ef++er)).length-32=(ya eL++(au++aK)).length by simp[aH,et];omega,zbs,<-aH,zbo,ZG aH]
 have aM:xY (qx ⟨eL,au,aK,ef,er⟩) 16=er:=by
  unfold xY;have ai:qx ⟨eL,au,aK,ef,er⟩=((ya eL++(au++aK))++ef)++er:=by simp[qx,zal]
  rw[ai,show(((ya eL++(au++aK))++ef)++er).length-16=((ya eL++(au++aK))++ef).length by simp[et];omega,zbs,<-et,List.take_length,ZG et]
 unfold yV;rw[eM,eE.1,eE.2,ag,aM];have aw:au.length<=16:=hm.u;by_cases ag:au.length<16
 ·have aL:aK=[]:=hm.uv ag;subst aL;rw[List.append_nil,zai aw,zak aw]
 ·have eO:au.length=16:=by omega
  rw[<-eO,zbo,zbs]
def Jr(k:zx)(row:List (La_))(m:La_)(back:Bool)(hm:32<=m.length):(Km k row m back).length=m.length:=by have eP:=Vj hm;unfold Km;rw[j9 (fq eP)];have aF:=j9 eP;rw[Qf hm] at aF;rw[aF];show 32*(ym k _ 0 (yE k 0 (yV m).pairs)).length+(uC k _ (yV m).u).length+(vC k _ (yV m).v).length+32=_;rw[kZ,kM];unfold uC vC;rw[a00,a00,xE,xE];have ag:=eP.u;have ag:=eP.v;omega
def sZ(k:zx)(row:List (La_))(m:La_)(back:Bool)(hm:32<=m.length):Km k row (Km k row m back) (!back)=m:=by
 have eP:=Vj hm;unfold Km;rw[mX (fq eP)];have ai:(if(!back)=true then 2 else 1)=(if back=true then 1 else 2):=by cases back<;>rfl
 have aj:(if(!back)=true then 1 else 2)=(if back=true then 2 else 1):=by cases back<;>rfl
 rw[ai,aj,sY eP,Qf hm]
def at64(l:List UInt64)(i:Nat):UInt64:=l.getD i 0
def yn{l:List UInt64}(h:i<l.length):l[i]? = some (at64 l i):=by simp[at64,List.getD,h]
def uh(x:UInt64)(n:Nat):UInt64:=ZX (xN x (64-n)) (yG x n)
def zft(v:List UInt64)(a b c d:Nat)(x:UInt64)(n m:Nat):List UInt64 :=
 let v1:=v.set a (zF (at64 v a) (zF (at64 v b) x));let v2:=v1.set d (uh (qV (at64 v1 d) (at64 v1 a)) n);let v3:=v2.set c (zF (at64 v2 c) (at64 v2 d))
 v3.set b (uh (qV (at64 v3 b) (at64 v3 c)) m)
def Js(v:List UInt64)(a b c d:Nat)(x:UInt64)(n m:Nat):(zft v a b c d x n m).length=v.length:=by simp[zft]
def ft(v:List UInt64)(i by':Nat)(x y:UInt64):List UInt64 :=
 zft (zft v i (4+(i+by')%4) (8+(i+2*by')%4) (12+(i+3*by')%4) x 32 24) i (4+(i+by')%4) (8+(i+2*by')%4) (12+(i+3*by')%4) y 16 63
def gN(v:List UInt64)(i by':Nat)(x y:UInt64):(ft v i by' x y).length=v.length:=by simp[ft,Js]
def Ym:List UInt64:=[0x6a09e667f3bcc908,0xbb67ae8584caa73b,0x3c6ef372fe94f82b,0xa54ff53a5f1d36f1,0x510e527fade682d1,0x9b05688c2b3e6c1f,0x1f83d9abfb41bd6b,0x5be0cd19137e2179]
def mY:La_:=[
 0,1,2,3,4,5,6,7,8,9,10,11,12,13,14,15,
 14,10,4,8,9,15,13,6,1,12,0,2,11,7,5,3,
 11,8,12,0,5,2,15,13,10,14,3,6,7,1,9,4,
 7,9,3,1,13,12,11,14,2,6,5,10,4,0,15,8,
 9,0,5,7,2,4,10,15,14,1,11,12,6,8,3,13,
 2,12,6,10,0,11,8,3,4,13,7,5,15,14,1,9,
 12,5,1,15,14,13,4,10,0,7,6,3,9,2,8,11,
 13,11,7,14,12,1,3,9,5,0,15,4,8,6,2,10,
 6,15,14,9,11,3,0,8,12,2,13,7,1,4,10,5,
 10,2,8,4,7,6,1,5,15,11,9,14,3,12,13,0]
def vN(r:Nat):La_:=(mY.drop (16*r)).take 16
def V1{r:Nat}(h:r<10):(vN r).length=16:=by unfold vN;rw[zam,zan];show min 16 (160-16*r)=16;omega
def ui:∀r,r<10->∀i,i<16->(at8 (vN r) i).toNat<16:=bd
def zeW(m:List UInt64)(row:La_)(v:List UInt64):Nat->List UInt64
 | 0=>v
 | k+1=>ft (zeW m row v k) (k%4) (k/4) (at64 m (at8 row (2*k)).toNat) (at64 m (at8 row (2*k+1)).toNat)
def Yn(m:List UInt64)(row:La_)(v:List UInt64):∀k,(zeW m row v k).length=v.length
 | 0=>rfl
 | k+1=>by rw[zeW,gN,Yn m row v k]
def zeh(m v:List UInt64):Nat->List UInt64
 | 0=>v
 | r+1=>zeW m (vN (r%10)) (zeh m v r) 8
def ZH(m v:List UInt64):∀r,(zeh m v r).length=v.length
 | 0=>rfl
 | r+1=>by rw[zeh,Yn,ZH m v r]
def numbers(blk:La_):List UInt64:=(zax 16).map λi=>zeE blk (8*i)
def uj(blk:La_):(numbers blk).length=16:=by simp[numbers]
def Z3(h:List UInt64)(i:Nat):UInt64:=if i<8 then at64 h i else at64 Ym (i-8)
def Yo(h:List UInt64):List UInt64:=(zax 16).map (Z3 h)
def we(h:List UInt64):(Yo h).length=16:=by simp[Yo]
def vO(h:List UInt64)(lo hi:UInt64):List UInt64 :=
 let v:=(Yo h).set 12 (qV (at64 (Yo h) 12) lo)
 v.set 13 (qV (at64 v 13) hi)
def Yp(h:List UInt64)(lo hi:UInt64):(vO h lo hi).length=16:=by simp[vO,we]
def a0l(h:List UInt64)(lo hi:UInt64)(last:Bool):List UInt64 :=
 if last=true then(vO h lo hi).set 14 (mM (at64 (vO h lo hi) 14)) else vO h lo hi
def df(h:List UInt64)(lo hi:UInt64)(last:Bool):(a0l h lo hi last).length=16:=by unfold a0l;split<;>simp[Yp]
def uk(h v:List UInt64)(i:Nat):UInt64:=qV (at64 h i) (qV (at64 v i) (at64 v (i+8)))
def compress(h:List UInt64)(blk:La_)(lo hi:UInt64)(last:Bool):List UInt64 :=
 (zax 8).map (uk h (zeh (numbers blk) (a0l h lo hi last) 12))
def jJ(h:List UInt64)(blk:La_)(lo hi:UInt64)(last:Bool):(compress h blk lo hi last).length=8:=by simp[compress]
def vP:List UInt64->La_
 | []=>[]
 | n::r=>zw n++vP r
def Kn:∀(l:List UInt64),(vP l).length=8*l.length
 | []=>rfl
 | n::r=>by simp only[vP,zac,zy,zaj,Kn r];omega
def V2:∀(l:List UInt64)(n:UInt64),vP (l++[n])=vP l++zw n
 | [],n=>by simp[vP]
 | x::r,n=>by simp only[List.cons_append,vP,V2 r n,zal]
def YT(n:Nat)(b:La_):La_:=b++zg (n-b.length)
def Qg:List UInt64:=Ym.set 0 (qV 0x6a09e667f3bcc908 0x01010030)
def V3(b:La_):La_:=(vP (compress Qg (YT 128 b) (zae b.length) 0 true)).take 48
def gO(b:La_):(V3 b).length=48:=by unfold V3;rw[zam,Kn,jJ];rfl
def mZ(key:La_):La_:=if key.length=48 then key else V3 key
def qy(key:La_):zx:=⟨block (mZ key),block ((mZ key).drop 16),block ((mZ key).drop 32)⟩
def ze6(k:zx)(row:List (La_))(m:La_)(back:Bool):La_:=if m.length<32 then vJ k row m back else Km k row m back
def gP{m:La_}{back:Bool}(h:m.length<32):ze6 k row m back=vJ k row m back:=by unfold ze6;rw[if_pos h]
def gQ{m:La_}{back:Bool}(h:¬m.length<32):ze6 k row m back=Km k row m back:=by unfold ze6;rw[if_neg h]
def wA(k:zx)(row:List (La_))(m:La_)(back:Bool):(ze6 k row m back).length=m.length:=by
 unfold ze6;split
 ·exact Jp _ _ _ _ ae
 ·exact Jr _ _ _ _ ae
def fu(k:zx)(row:List (La_))(m:La_)(back:Bool):ze6 k row (ze6 k row m back) (!back)=m:=by
 have aR:=wA k row m back;by_cases ag:m.length<32
 ·rw[gP (m:=ze6 k row m back) (by rw[aR];exact ag),gP ag,sU _ _ _ _ ae]
 ·rw[gQ (m:=ze6 k row m back) (by rw[aR];exact ag),gQ ag,sZ _ _ _ _ ae]
def xZ(t:Nat)(zdR:La_)(ad:List (La_)):List (La_):=(zg 15++[UInt8.ofNat (8*t)])::zdR::ad
def Z4(k:zx)(row:List (La_))(t:Nat)(m:La_):La_:=if m=[] then Ka k row t else ze6 k row (m++zg t) false
def Qh(k:zx)(row:List (La_))(t:Nat)(b:La_):Option (La_) :=
 if b.length<t then none
 else if b.length=t then(if b=Ka k row t then some [] else none)
 else if(ze6 k row b true).drop (b.length-t)=zg t then some ((ze6 k row b true).take (b.length-t)) else none
def Jt(k:zx)(row:List (La_))(t:Nat)(m:La_):(Z4 k row t m).length=m.length+t:=by
 unfold Z4;split
 ·next h=>rw[VW,h];simp
 ·rw[wA,zac,ze]
def BJ(k:zx)(row:List (La_))(t:Nat)(m:La_):Qh k row t (Z4 k row t m)=some m:=by
 have aR:=Jt k row t m;unfold Qh;rw[aR,if_neg ae];by_cases ag:m=[]
 ·subst ag;rw[if_pos ab];have:Z4 k row t []=Ka k row t:=by unfold Z4;rw[if_pos rfl]
  rw[this,if_pos rfl]
 ·have aM:m.length≠0:=λe=>ag (zaI e);rw[if_neg ae];have:Z4 k row t m=ze6 k row (m++zg t) false:=by unfold Z4;rw[if_neg ag]
  have aF:ze6 k row (Z4 k row t m) true=m++zg t:=by rw[this];exact fu k row (m++zg t) false
  rw[aF,show m.length+t-t=m.length by omega,zbs,zbo,if_pos rfl]
def yZ(a:UInt64):(xS a 67108863).toNat=a.toNat%67108864:=by unfold xS;rw[UInt64.toNat_and];show a.toNat&&&67108863=_;exact Nat.and_two_pow_sub_one_eq_mod _ 26
def yO(a:UInt64)(n:Nat):(yG a n).toNat=a.toNat/2^n:=by unfold yG;exact zaR (Nat.lt_of_le_of_lt (Nat.div_le_self _ _) a.toNat_lt)
def xO(a b:UInt64)(h:a.toNat+b.toNat<18446744073709551616):(zF a b).toNat=a.toNat+b.toNat:=by unfold zF;rw[UInt64.toNat_add];exact zbG h
def Qi(a b:UInt64)(h:a.toNat*b.toNat<18446744073709551616):(qE a b).toNat=a.toNat*b.toNat:=by unfold qE;rw[UInt64.toNat_mul];exact zbG h
def PP:Nat:=1361129467683753853853498429727072845819
def qi(l:List UInt64):Nat:=(at64 l 0).toNat+67108864*(at64 l 1).toNat+4503599627370496*(at64 l 2).toNat+302231454903657293676544*(at64 l 3).toNat+20282409603651670423947251286016*(at64 l 4).toNat
def jj(l:List UInt64):Nat->List UInt64×UInt64
 | 0=>(l,0)
 | i+1=>((jj l i).1.set i (xS (zF (at64 (jj l i).1 i) (jj l i).2) 67108863),yG (zF (at64 (jj l i).1 i) (jj l i).2) 26)
def carried(l:List UInt64):List UInt64:=(jj l 5).1.set 0 (zF (at64 (jj l 5).1 0) (qE 5 (jj l 5).2))
def ZI(l:List UInt64):∀i,(jj l i).1.length=l.length
 | 0=>rfl
 | i+1=>by rw[jj,zav,ZI l i]
def ZJ(l:List UInt64):(carried l).length=l.length:=by rw[carried,zav,ZI]
def YV(l:List UInt64):Prop:=l.length=5/\∀i,i<5->(at64 l i).toNat<1152921504606846976
def ZK(l:List UInt64):Prop:=l.length=5/\∀i,i<5->(at64 l i).toNat<67108864
def m8{α:Type}{l:List α}(h:l.length=5):∃a0 a1 a2 a3 a4,l=[a0,a1,a2,a3,a4]:=by
 match l,h with
 | [a0,a1,a2,a3,a4],_=>exact⟨a0,a1,a2,a3,a4,rfl⟩
def ZK.loose{l:List UInt64}(h:ZK l):YV l:=⟨h.1,λi hi=>zdx (h.2 i hi) bd⟩
def uo(a0 a1 a2 a3 a4:UInt64):∃x1 x2 x3 x4,x1=zF a1 (yG (zF a0 0) 26)/\x2=zF a2 (yG x1 26)/\x3=zF a3 (yG x2 26)/\x4=zF a4 (yG x3 26) /\
  carried [a0,a1,a2,a3,a4]=[zF (xS (zF a0 0) 67108863) (qE 5 (yG x4 26)),xS x1 67108863,xS x2 67108863,xS x3 67108863,xS x4 67108863] :=
 ⟨_,_,_,_,rfl,rfl,rfl,rfl,rfl⟩
def Zj{l:List UInt64}(h:YV l):∃c,qi (carried l)+c*PP=qi l/\c<68719476736/\(∀i,0<i->i<5->(at64 (carried l) i).toNat<67108864)/\(at64 (carried l) 0).toNat<67108864+5*c/\YV (carried l):=by
 obtain⟨eT,eU,eV,eW,eX,rfl⟩:=m8 h.1;have ag:eT.toNat<1152921504606846976:=h.2 0 ae;have ag:eU.toNat<1152921504606846976:=h.2 1 ae;have ag:eV.toNat<1152921504606846976:=h.2 2 ae;have ag:eW.toNat<1152921504606846976:=h.2 3 ae;have ag:eX.toNat<1152921504606846976:=h.2 4 ae;obtain⟨ef,eY,eZ,ia,ai,aj,ak,an,az⟩:=uo eT eU eV eW eX;have ib:(zF eT 0).toNat=eT.toNat:=by rw[xO _ _ (by simp;omega)];rfl
 have ic:ef.toNat=eU.toNat+eT.toNat/67108864:=by
  rw[ai,xO,yO,ib];rw[yO,ib];omega
 have ic:eY.toNat=eV.toNat+ef.toNat/67108864:=by
  rw[aj,xO,yO];rw[yO];omega
 have ic:eZ.toNat=eW.toNat+eY.toNat/67108864:=by
  rw[ak,xO,yO];rw[yO];omega
 have ic:ia.toNat=eX.toNat+eZ.toNat/67108864:=by
  rw[an,xO,yO];rw[yO];omega
 have ej:(yG ia 26).toNat=ia.toNat/67108864:=yO _ _;have aZ:(qE 5 (yG ia 26)).toNat=5*(ia.toNat/67108864):=by
  rw[Qi,ej];rfl;rw[ej];show 5*_<_;omega
 have ie:(zF (xS (zF eT 0) 67108863) (qE 5 (yG ia 26))).toNat=eT.toNat%67108864+5*(ia.toNat/67108864):=by
  rw[xO,yZ,ib,aZ];rw[yZ,ib,aZ];omega
 rw[az];refine⟨ia.toNat/67108864,?_,ae,?_,?_,rfl,?_⟩
 ·simp only[qi,at64,zar,zao,ie,yZ,PP];omega
 ·intro i aO ig
  match i,aO,ig with
  | 1,_,_=>simp only[at64,zar,zao,yZ];omega
  | 2,_,_=>simp only[at64,zar,zao,yZ];omega
  | 3,_,_=>simp only[at64,zar,zao,yZ];omega
  | 4,_,_=>simp only[at64,zar,zao,yZ];omega
 ·simp only[at64,zar,ie];omega
 ·intro i ig
  match i,ig with
  | 0,_=>simp only[at64,zar,ie];omega
  | 1,_=>simp only[at64,zar,zao,yZ];omega
  | 2,_=>simp only[at64,zar,zao,yZ];omega
  | 3,_=>simp only[at64,zar,zao,yZ];omega
  | 4,_=>simp only[at64,zar,zao,yZ];omega
def dg{l:List UInt64}(h:ZK l):carried l=l:=by
 obtain⟨eT,eU,eV,eW,eX,rfl⟩:=m8 h.1;have ag:eT.toNat<67108864:=h.2 0 ae;have aM:eU.toNat<67108864:=h.2 1 ae;have ij:eV.toNat<67108864:=h.2 2 ae;have ik:eW.toNat<67108864:=h.2 3 ae;have il:eX.toNat<67108864:=h.2 4 ae;have ir:∀x:UInt64,zF x 0=x:=λx=>UInt64.add_zero x;have iu:∀x:UInt64,x.toNat<67108864->yG x 26=0:=λx hx=>zaU.1 (by rw[yO];show _=0;omega);have iv:∀x:UInt64,x.toNat<67108864->xS x 67108863=x:=λx hx=>zaU.1 (by rw[yZ];omega);obtain⟨ef,eY,eZ,ia,ai,aj,ak,an,az⟩:=uo eT eU eV eW eX;have ib:ef=eU:=by rw[ai,ir,iu _ ag,ir]
 have ic:eY=eV:=by rw[aj,ib,iu _ aM,ir]
 have iw:eZ=eW:=by rw[ak,ic,iu _ ij,ir]
 have ix:ia=eX:=by rw[an,iw,iu _ ik,ir]
 rw[az,ib,ic,iw,ix,iu _ il,ir,iv _ ag,iv _ aM,iv _ ij,iv _ ik,iv _ il];rw[show qE 5 0=0 from rfl,ir]
instance (l:List UInt64):Decidable (∀i,i<5->(at64 l i).toNat<67108864):=inferInstance
def meas(l:List UInt64):Nat:=2*qi l+if(∀i,i<5->(at64 l i).toNat<67108864) then 0 else 1
def BK{l:List UInt64}(h:YV l)(hne:carried l≠l):meas (carried l)<meas l:=by
 obtain⟨iy,ag,aM,ij,ik,il⟩:=Zj h;unfold meas;by_cases az:iy=0
 ·subst az;have aL:qi (carried l)=qi l:=c6;have aW:∀i,i<5->(at64 (carried l) i).toNat<67108864:=by
   intro i aO;by_cases ai:i=0
   ·subst ai;simpa using ik
   ·exact ij i ae aO
  have aD:¬ ∀i,i<5->(at64 l i).toNat<67108864:=λhall=>hne (dg ⟨h.1,hall⟩);rw[if_pos aW,if_neg aD,aL];omega
 ·have eE:PP<=iy*PP:=zcV _ ae;have iz:1<=PP:=bd;split<;>split<;>omega
def Vl{l:List UInt64}(h:YV l)(he:carried l=l):ZK l:=by
 obtain⟨iy,ag,aM,ij,ik,il⟩:=Zj h;rw[he] at ag ij ik;have az:iy=0:=by
  rcases Nat.eq_zero_or_pos iy with h|h
  ·exact h
  ·have eE:PP<=iy*PP:=zcV _ h;have iz:1<=PP:=bd;omega
 subst az;refine⟨h.1,λi hi=>?_⟩;by_cases ai:i=0
 ·subst ai;simpa using ik
 ·exact ij i ae hi
def m9{l:List UInt64}(h:YV l):qi (carried l)%PP=qi l%PP:=by obtain⟨iy,ag,_⟩:=Zj h;rw[<-ag,zbV]
def numOf(n:Nat):List UInt32:=[zbg (n%67108864),zbg (n/67108864%67108864),zbg (n/4503599627370496%67108864),zbg (n/302231454903657293676544%67108864),zbg (n/20282409603651670423947251286016%67108864)]
def Ju(l:List UInt64):List UInt32:=[xy (at64 l 0),xy (at64 l 1),xy (at64 l 2),xy (at64 l 3),xy (at64 l 4)]
def zfu(l:List UInt64):List UInt64:=if(at64 l 1=67108863/\at64 l 2=67108863/\at64 l 3=67108863/\at64 l 4=67108863)/\67108858<(at64 l 0).toNat then[ZZ (at64 l 0) 67108859,0,0,0,0] else l
def V4{l:List UInt64}(h:ZK l):Ju l=numOf (qi l):=by
 obtain⟨eT,eU,eV,eW,eX,rfl⟩:=m8 h.1;have ag:eT.toNat<67108864:=h.2 0 ae;have ag:eU.toNat<67108864:=h.2 1 ae;have ag:eV.toNat<67108864:=h.2 2 ae;have ag:eW.toNat<67108864:=h.2 3 ae;have ag:eX.toNat<67108864:=h.2 4 ae;simp only[Ju,numOf,qi,xy,at64,zar,zao];congr 1
 ·congr 1;omega
 congr 1
 ·congr 1;omega
 congr 1
 ·congr 1;omega
 congr 1
 ·congr 1;omega
 congr 1
 ·congr 1;omega
def Vm{l:List UInt64}(h:ZK l):Ju (zfu l)=numOf (qi l%PP):=by
 obtain⟨eT,eU,eV,eW,eX,rfl⟩:=m8 h.1;have ag:eT.toNat<67108864:=h.2 0 ae;have ag:eU.toNat<67108864:=h.2 1 ae;have ag:eV.toNat<67108864:=h.2 2 ae;have ag:eW.toNat<67108864:=h.2 3 ae;have ag:eX.toNat<67108864:=h.2 4 ae;unfold zfu;by_cases az:(at64 [eT,eU,eV,eW,eX] 1=67108863/\at64 [eT,eU,eV,eW,eX] 2=67108863/\at64 [eT,eU,eV,eW,eX] 3=67108863/\at64 [eT,eU,eV,eW,eX] 4=67108863)/\67108858<(at64 [eT,eU,eV,eW,eX] 0).toNat
 ·rw[if_pos az];simp only[at64,zar,zao] at az |-;obtain⟨⟨rfl,rfl,rfl,rfl⟩,ag⟩:=az;have eg:(ZZ eT 67108859).toNat=eT.toNat-67108859:=by
   unfold ZZ;exact UInt64.toNat_sub_of_le _ _ (by rw[UInt64.le_iff_toNat_le];show 67108859<=eT.toNat;omega)
  have eh:(67108863:UInt64).toNat=67108863:=rfl;have aL:qi [eT,67108863,67108863,67108863,67108863]%PP=eT.toNat-67108859:=by
   simp only[qi,at64,zar,zao,eh,PP];omega
  have aW:ZK [ZZ eT 67108859,0,0,0,0]:=by
   refine⟨rfl,λi hi=>?_⟩
   match i,hi with
   | 0,_=>simp only[at64,zar,eg];omega
   | 1,_=>exact(by decide:(0:UInt64).toNat<67108864)
   | 2,_=>exact(by decide:(0:UInt64).toNat<67108864)
   | 3,_=>exact(by decide:(0:UInt64).toNat<67108864)
   | 4,_=>exact(by decide:(0:UInt64).toNat<67108864)
  have iA:qi [ZZ eT 67108859,0,0,0,0]=eT.toNat-67108859:=by
   have aT:(0:UInt64).toNat=0:=rfl;simp only[qi,at64,zar,zao,eg,aT];omega
  rw[V4 aW,aL,iA]
 ·rw[if_neg az,V4 h];congr 1;symm;apply zbG;simp only[at64,zar,zao] at az;by_cases ai:eU.toNat=67108863/\eV.toNat=67108863/\eW.toNat=67108863/\eX.toNat=67108863
  ·have ag:¬67108858<eT.toNat:=λh6=>az ⟨⟨zaU.1 ai.1,zaU.1 ai.2.1,zaU.1 ai.2.2.1,zaU.1 ai.2.2.2⟩,h6⟩;simp only[qi,at64,zar,zao,PP];omega
  ·simp only[qi,at64,zar,zao,PP];omega
def xW(l:List UInt32):List UInt64:=[y9 (xk l 0),y9 (xk l 1),y9 (xk l 2),y9 (xk l 3),y9 (xk l 4)]
def jO(x:UInt32):(y9 x).toNat=x.toNat:=by unfold y9;exact zaR (zdx x.toNat_lt bd)
def kN(n:Nat):ZK (xW (numOf n)):=by
 refine⟨rfl,λi hi=>?_⟩
 match i,hi with
 | 0,_=>show(y9 _).toNat<_;rw[jO,xk,numOf,zar,zaA al];omega
 | 1,_=>show(y9 _).toNat<_;rw[jO,xk,numOf,zao,zar,zaA al];omega
 | 2,_=>show(y9 _).toNat<_;rw[jO,xk,numOf,zao,zao,zar,zaA al];omega
 | 3,_=>show(y9 _).toNat<_;rw[jO,xk,numOf,zao,zao,zao,zar,zaA al];omega
 | 4,_=>show(y9 _).toNat<_;rw[jO,xk,numOf,zao,zao,zao,zao,zar,zaA al];omega
def jV(h:n<1361129467683753853853498429727072845824):qi (xW (numOf n))=n:=by have ai:∀m:Nat,(zbg (m%67108864)).toNat=m%67108864:=λm=>zaA al;simp only[qi,xW,numOf,at64,xk,zar,zao,jO,ai];omega
def nd(a b:List UInt64):List UInt64:=[zF (at64 a 0) (at64 b 0),zF (at64 a 1) (at64 b 1),zF (at64 a 2) (at64 b 2),zF (at64 a 3) (at64 b 3),zF (at64 a 4) (at64 b 4)]
def s9{a b:List UInt64}(ha:ZK a)(hb:ZK b):YV (nd a b)/\qi (nd a b)=qi a+qi b:=by
 have ai:∀i,i<5->(zF (at64 a i) (at64 b i)).toNat=(at64 a i).toNat+(at64 b i).toNat:=λi hi=>xO _ _ (by have:=ha.2 i hi;have:=hb.2 i hi;omega);constructor
 ·refine⟨rfl,λi hi=>?_⟩;have ag:=ha.2 i hi;have ag:=hb.2 i hi;have ag:=ai i hi
  match i,hi with
  | 0,_=>show(zF _ _).toNat<_;omega
  | 1,_=>show(zF _ _).toNat<_;omega
  | 2,_=>show(zF _ _).toNat<_;omega
  | 3,_=>show(zF _ _).toNat<_;omega
  | 4,_=>show(zF _ _).toNat<_;omega
 ·have aj:=ai 0 ae;have ak:=ai 1 ae;have an:=ai 2 ae;have iB:=ai 3 ae;have iC:=ai 4 ae;refine afN ?_;intro ah;unfold nd;rw[ah,aj,ak,an,iB,iC];unfold qi;omega
def zZ(a b:List UInt64)(i j:Nat):UInt64:=if 5<=i+j then qE (qE (at64 a i) (at64 b j)) 5 else qE (at64 a i) (at64 b j)
def UR(a b w:List UInt64)(i j:Nat):List UInt64:=w.set ((i+j)%5) (zF (at64 w ((i+j)%5)) (zZ a b i j))
def zfH(a b w:List UInt64)(i:Nat):Nat->List UInt64
 | 0=>w
 | j+1=>UR a b (zfH a b w i j) i j
def zex(a b w:List UInt64):Nat->List UInt64
 | 0=>w
 | i+1=>zfH a b (zex a b w i) i 5
def gS(a b w:List UInt64)(i j:Nat):(UR a b w i j).length=w.length:=by simp[UR]
def Qj(a b w:List UInt64)(i:Nat):∀j,(zfH a b w i j).length=w.length
 | 0=>rfl
 | j+1=>by rw[zfH,gS,Qj a b w i j]
def Yu(a b w:List UInt64):∀i,(zex a b w i).length=w.length
 | 0=>rfl
 | i+1=>by rw[zex,Qj,Yu a b w i]
def BL{a b:List UInt64}(ha:ZK a)(hb:ZK b){j:Nat}(hi:i<5)(hj:j<5):(zZ a b i j).toNat=(if 5<=i+j then 5 else 1)*((at64 a i).toNat*(at64 b j).toNat)/\(at64 a i).toNat*(at64 b j).toNat<=4503599627370496:=by
 have ag:=ha.2 i hi;have ag:=hb.2 j hj;have eh:(at64 a i).toNat*(at64 b j).toNat<=67108864*67108864:=Nat.mul_le_mul ae ae;have eE:(qE (at64 a i) (at64 b j)).toNat=(at64 a i).toNat*(at64 b j).toNat:=Qi _ _ ae;refine⟨?_,ae⟩;unfold zZ;split
 ·rw[Qi _ _ (by rw[eE];show _*5<_;omega),eE];show _*5=_;omega
 ·rw[eE];omega
attribute [local irreducible] zZ zF in
def ziu(a b:List UInt64)(w0 w1 w2 w3 w4:UInt64):zfH a b [w0,w1,w2,w3,w4] 0 5=[zF w0 (zZ a b 0 0),zF w1 (zZ a b 0 1),zF w2 (zZ a b 0 2),zF w3 (zZ a b 0 3),zF w4 (zZ a b 0 4)]:=rfl
attribute [local irreducible] zZ zF in
def ziv(a b:List UInt64)(w0 w1 w2 w3 w4:UInt64):zfH a b [w0,w1,w2,w3,w4] 1 5=[zF w0 (zZ a b 1 4),zF w1 (zZ a b 1 0),zF w2 (zZ a b 1 1),zF w3 (zZ a b 1 2),zF w4 (zZ a b 1 3)]:=rfl
attribute [local irreducible] zZ zF in
def ziw(a b:List UInt64)(w0 w1 w2 w3 w4:UInt64):zfH a b [w0,w1,w2,w3,w4] 2 5=[zF w0 (zZ a b 2 3),zF w1 (zZ a b 2 4),zF w2 (zZ a b 2 0),zF w3 (zZ a b 2 1),zF w4 (zZ a b 2 2)]:=rfl
attribute [local irreducible] zZ zF in
def zix(a b:List UInt64)(w0 w1 w2 w3 w4:UInt64):zfH a b [w0,w1,w2,w3,w4] 3 5=[zF w0 (zZ a b 3 2),zF w1 (zZ a b 3 3),zF w2 (zZ a b 3 4),zF w3 (zZ a b 3 0),zF w4 (zZ a b 3 1)]:=rfl
attribute [local irreducible] zZ zF in
def ziy(a b:List UInt64)(w0 w1 w2 w3 w4:UInt64):zfH a b [w0,w1,w2,w3,w4] 4 5=[zF w0 (zZ a b 4 1),zF w1 (zZ a b 4 2),zF w2 (zZ a b 4 3),zF w3 (zZ a b 4 4),zF w4 (zZ a b 4 0)]:=rfl
def BM(a b:List UInt64):zex a b [0,0,0,0,0] 5=[zF (zF (zF (zF (zF 0 (zZ a b 0 0)) (zZ a b 1 4)) (zZ a b 2 3)) (zZ a b 3 2)) (zZ a b 4 1),zF (zF (zF (zF (zF 0 (zZ a b 0 1)) (zZ a b 1 0)) (zZ a b 2 4)) (zZ a b 3 3)) (zZ a b 4 2),zF (zF (zF (zF (zF 0 (zZ a b 0 2)) (zZ a b 1 1)) (zZ a b 2 0)) (zZ a b 3 4)) (zZ a b 4 3),zF (zF (zF (zF (zF 0 (zZ a b 0 3)) (zZ a b 1 2)) (zZ a b 2 1)) (zZ a b 3 0)) (zZ a b 4 4),zF (zF (zF (zF (zF 0 (zZ a b 0 4)) (zZ a b 1 3)) (zZ a b 2 2)) (zZ a b 3 1)) (zZ a b 4 0)]:=by rw[zex,zex,zex,zex,zex,zex,ziu,ziv,ziw,zix,ziy]
def ziz{x0 x1 x2 x3 x4:UInt64}(h0:x0.toNat<=22517998136852480)(h1:x1.toNat<=22517998136852480)(h2:x2.toNat<=22517998136852480)(h3:x3.toNat<=22517998136852480)(h4:x4.toNat<=22517998136852480):(zF (zF (zF (zF (zF 0 x0) x1) x2) x3) x4).toNat=x0.toNat+x1.toNat+x2.toNat+x3.toNat+x4.toNat:=by
 have ep:(0:UInt64).toNat=0:=rfl;have ai:(zF 0 x0).toNat=x0.toNat:=by rw[xO _ _ (by omega),ep];omega
 have aj:(zF (zF 0 x0) x1).toNat=x0.toNat+x1.toNat:=by rw[xO _ _ (by omega),ai]
 have ai:(zF (zF (zF 0 x0) x1) x2).toNat=x0.toNat+x1.toNat+x2.toNat:=by rw[xO _ _ (by omega),aj]
 have aj:(zF (zF (zF (zF 0 x0) x1) x2) x3).toNat=x0.toNat+x1.toNat+x2.toNat+x3.toNat:=by rw[xO _ _ (by omega),ai]
 rw[xO _ _ ae,aj]
def nf{a b:List UInt64}(ha:ZK a)(hb:ZK b):YV (zex a b [0,0,0,0,0] 5)/\qi (zex a b [0,0,0,0,0] 5)%PP=qi a*qi b%PP:=by
 have iD:=λi j (hi:i<5) (hj:j<5)=>BL ha hb hi hj;have iE:∀i j,i<5->j<5->(zZ a b i j).toNat<=22517998136852480:=by
  intro i j hi hj;obtain⟨ag,aM⟩:=iD i j hi hj;rw[ag];split<;>omega
 have ej:=ziz (iE 0 0 ae ae) (iE 1 4 ae ae) (iE 2 3 ae ae) (iE 3 2 ae ae) (iE 4 1 ae ae);have iF:=ziz (iE 0 1 ae ae) (iE 1 0 ae ae) (iE 2 4 ae ae) (iE 3 3 ae ae) (iE 4 2 ae ae);have iG:=ziz (iE 0 2 ae ae) (iE 1 1 ae ae) (iE 2 0 ae ae) (iE 3 4 ae ae) (iE 4 3 ae ae);have iH:=ziz (iE 0 3 ae ae) (iE 1 2 ae ae) (iE 2 1 ae ae) (iE 3 0 ae ae) (iE 4 4 ae ae);have iI:=ziz (iE 0 4 ae ae) (iE 1 3 ae ae) (iE 2 2 ae ae) (iE 3 1 ae ae) (iE 4 0 ae ae);have ek:(zZ a b 0 0).toNat=((at64 a 0).toNat*(at64 b 0).toNat):=by rw[(iD 0 0 (by omega) (by omega)).1];simp
 have iJ:(zZ a b 0 1).toNat=((at64 a 0).toNat*(at64 b 1).toNat):=by rw[(iD 0 1 (by omega) (by omega)).1];simp
 have iK:(zZ a b 0 2).toNat=((at64 a 0).toNat*(at64 b 2).toNat):=by rw[(iD 0 2 (by omega) (by omega)).1];simp
 have iL:(zZ a b 0 3).toNat=((at64 a 0).toNat*(at64 b 3).toNat):=by rw[(iD 0 3 (by omega) (by omega)).1];simp
 have iM:(zZ a b 0 4).toNat=((at64 a 0).toNat*(at64 b 4).toNat):=by rw[(iD 0 4 (by omega) (by omega)).1];simp
 have iN:(zZ a b 1 0).toNat=((at64 a 1).toNat*(at64 b 0).toNat):=by rw[(iD 1 0 (by omega) (by omega)).1];simp
 have iO:(zZ a b 1 1).toNat=((at64 a 1).toNat*(at64 b 1).toNat):=by rw[(iD 1 1 (by omega) (by omega)).1];simp
 have iP:(zZ a b 1 2).toNat=((at64 a 1).toNat*(at64 b 2).toNat):=by rw[(iD 1 2 (by omega) (by omega)).1];simp
 have iQ:(zZ a b 1 3).toNat=((at64 a 1).toNat*(at64 b 3).toNat):=by rw[(iD 1 3 (by omega) (by omega)).1];simp
 have iR:(zZ a b 1 4).toNat=5*((at64 a 1).toNat*(at64 b 4).toNat):=by rw[(iD 1 4 (by omega) (by omega)).1];simp
 have iS:(zZ a b 2 0).toNat=((at64 a 2).toNat*(at64 b 0).toNat):=by rw[(iD 2 0 (by omega) (by omega)).1];simp
 have iT:(zZ a b 2 1).toNat=((at64 a 2).toNat*(at64 b 1).toNat):=by rw[(iD 2 1 (by omega) (by omega)).1];simp
 have iU:(zZ a b 2 2).toNat=((at64 a 2).toNat*(at64 b 2).toNat):=by rw[(iD 2 2 (by omega) (by omega)).1];simp
 have iV:(zZ a b 2 3).toNat=5*((at64 a 2).toNat*(at64 b 3).toNat):=by rw[(iD 2 3 (by omega) (by omega)).1];simp
 have iW:(zZ a b 2 4).toNat=5*((at64 a 2).toNat*(at64 b 4).toNat):=by rw[(iD 2 4 (by omega) (by omega)).1];simp
 have iX:(zZ a b 3 0).toNat=((at64 a 3).toNat*(at64 b 0).toNat):=by rw[(iD 3 0 (by omega) (by omega)).1];simp
 have iY:(zZ a b 3 1).toNat=((at64 a 3).toNat*(at64 b 1).toNat):=by rw[(iD 3 1 (by omega) (by omega)).1];simp
 have iZ:(zZ a b 3 2).toNat=5*((at64 a 3).toNat*(at64 b 2).toNat):=by rw[(iD 3 2 (by omega) (by omega)).1];simp
 have jb:(zZ a b 3 3).toNat=5*((at64 a 3).toNat*(at64 b 3).toNat):=by rw[(iD 3 3 (by omega) (by omega)).1];simp
 have o8:(zZ a b 3 4).toNat=5*((at64 a 3).toNat*(at64 b 4).toNat):=by rw[(iD 3 4 (by omega) (by omega)).1];simp
 have o9:(zZ a b 4 0).toNat=((at64 a 4).toNat*(at64 b 0).toNat):=by rw[(iD 4 0 (by omega) (by omega)).1];simp
 have oa:(zZ a b 4 1).toNat=5*((at64 a 4).toNat*(at64 b 1).toNat):=by rw[(iD 4 1 (by omega) (by omega)).1];simp
 have ob:(zZ a b 4 2).toNat=5*((at64 a 4).toNat*(at64 b 2).toNat):=by rw[(iD 4 2 (by omega) (by omega)).1];simp
 have oe:(zZ a b 4 3).toNat=5*((at64 a 4).toNat*(at64 b 3).toNat):=by rw[(iD 4 3 (by omega) (by omega)).1];simp
 have oh:(zZ a b 4 4).toNat=5*((at64 a 4).toNat*(at64 b 4).toNat):=by rw[(iD 4 4 (by omega) (by omega)).1];simp
 refine afN ?_;intro ah;rw[BM];refine⟨⟨rfl,λi hi=>?_⟩,?_⟩
 ·match i,hi with
  | 0,_=>show(zF _ _).toNat<_;rw[ej];have:=iE 0 0 ae ae;have:=iE 1 4 ae ae;have:=iE 2 3 ae ae;have:=iE 3 2 ae ae;have:=iE 4 1 ae ae;omega
  | 1,_=>show(zF _ _).toNat<_;rw[iF];have:=iE 0 1 ae ae;have:=iE 1 0 ae ae;have:=iE 2 4 ae ae;have:=iE 3 3 ae ae;have:=iE 4 2 ae ae;omega
  | 2,_=>show(zF _ _).toNat<_;rw[iG];have:=iE 0 2 ae ae;have:=iE 1 1 ae ae;have:=iE 2 0 ae ae;have:=iE 3 4 ae ae;have:=iE 4 3 ae ae;omega
  | 3,_=>show(zF _ _).toNat<_;rw[iH];have:=iE 0 3 ae ae;have:=iE 1 2 ae ae;have:=iE 2 1 ae ae;have:=iE 3 0 ae ae;have:=iE 4 4 ae ae;omega
  | 4,_=>show(zF _ _).toNat<_;rw[iI];have:=iE 0 4 ae ae;have:=iE 1 3 ae ae;have:=iE 2 2 ae ae;have:=iE 3 1 ae ae;have:=iE 4 0 ae ae;omega
 ·rw[ah,ej,iF,iG,iH,iI];unfold qi;rw[ek,iJ,iK,iL,iM,iN,iO,iP,iQ,iR,iS,iT,iU,iV,iW,iX,iY,iZ,jb,o8,o9,oa,ob,oe,oh];generalize (at64 a 0).toNat=eT;generalize (at64 b 0).toNat=ax;generalize (at64 a 1).toNat=eU;generalize (at64 b 1).toNat=om;generalize (at64 a 2).toNat=eV;generalize (at64 b 2).toNat=oq;generalize (at64 a 3).toNat=eW;generalize (at64 b 3).toNat=ot;generalize (at64 a 4).toNat=eX;generalize (at64 b 4).toNat=ov;have ow:(eT+67108864*eU+4503599627370496*eV+302231454903657293676544*eW+20282409603651670423947251286016*eX)*(ax+67108864*om+4503599627370496*oq+302231454903657293676544*ot+20282409603651670423947251286016*ov)=((eT*ax+5*(eU*ov)+5*(eV*ot)+5*(eW*oq)+5*(eX*om))+67108864*(eT*om+eU*ax+5*(eV*ov)+5*(eW*ot)+5*(eX*oq))+4503599627370496*(eT*oq+eU*om+eV*ax+5*(eW*ov)+5*(eX*ot))+302231454903657293676544*(eT*ot+eU*oq+eV*om+eW*ax+5*(eX*ov))+20282409603651670423947251286016*(eT*ov+eU*ot+eV*oq+eW*om+eX*ax))+((eU*ov+eV*ot+eW*oq+eX*om)+67108864*(eV*ov+eW*ot+eX*oq)+4503599627370496*(eW*ov+eX*ot)+302231454903657293676544*(eX*ov))*PP:=by
   unfold PP;grind
  rw[ow,zbV]
def k8(a:UInt64)(n:Nat):(xN a n).toNat=a.toNat*2^n%18446744073709551616:=by unfold xN;exact zbm
def vR(a b:UInt64)(k:Nat)(ha:a.toNat<2^k)(hb:b.toNat%2^k=0):(ZX a b).toNat=a.toNat+b.toNat:=by
 unfold ZX;rw[UInt64.toNat_or];obtain⟨q,eA⟩:∃q,b.toNat=2^k*q:=⟨b.toNat/2^k,by have:=Nat.div_add_mod b.toNat (2^k);omega⟩
 rw[eA,Nat.or_comm,<-Nat.two_pow_add_eq_or_of_lt ha,Nat.add_comm]
def ofL(lo hi:UInt64)(high:UInt32):List UInt64:=[xS lo 67108863,xS (yG lo 26) 67108863,xS (ZX (yG lo 52) (xN hi 12)) 67108863,xS (yG hi 14) 67108863,ZX (yG hi 40) (xN (y9 high) 24)]
def DY(lo hi:UInt64)(high:UInt32)(hh:high.toNat<=1):YV (ofL lo hi high)/\qi (ofL lo hi high)=lo.toNat+18446744073709551616*hi.toNat+340282366920938463463374607431768211456*high.toNat:=by
 have aR:=lo.toNat_lt;have aO:=hi.toNat_lt;have ox:(ZX (yG lo 52) (xN hi 12)).toNat=lo.toNat/4503599627370496+hi.toNat*4096%18446744073709551616:=by
  rw[vR _ _ 12 (by rw[yO];show _/4503599627370496<4096;omega) (by rw[k8];show _*4096%18446744073709551616%4096=0;omega),yO,k8]
 have oy:(ZX (yG hi 40) (xN (y9 high) 24)).toNat=hi.toNat/1099511627776+high.toNat*16777216:=by
  have ai:(xN (y9 high) 24).toNat=high.toNat*16777216:=by
   rw[k8,jO];show _*16777216%_=_;omega
  rw[vR _ _ 24 (by rw[yO];show _/1099511627776<16777216;omega) (by rw[ai];show _*16777216%16777216=0;omega),yO,ai]
 have ey:(xS lo 67108863).toNat=lo.toNat%67108864:=yZ _;have oz:(xS (yG lo 26) 67108863).toNat=lo.toNat/67108864%67108864:=by rw[yZ,yO]
 have oA:(xS (ZX (yG lo 52) (xN hi 12)) 67108863).toNat=(lo.toNat/4503599627370496+hi.toNat*4096%18446744073709551616)%67108864:=by rw[yZ,ox]
 have oB:(xS (yG hi 14) 67108863).toNat=hi.toNat/16384%67108864:=by rw[yZ,yO]
 refine⟨⟨rfl,λi hi2=>?_⟩,?_⟩
 ·match i,hi2 with
  | 0,_=>show(xS _ _).toNat<_;omega
  | 1,_=>show(xS _ _).toNat<_;omega
  | 2,_=>show(xS _ _).toNat<_;omega
  | 3,_=>show(xS _ _).toNat<_;omega
  | 4,_=>show(ZX _ _).toNat<_;omega
 ·refine afN ?_;intro ah;unfold ofL;rw[ah,ey,oz,oA,oB,oy];omega
def US(w:List UInt64):UInt64:=ZX (ZX (at64 w 0) (xN (at64 w 1) 26)) (xN (at64 w 2) 52)
def UT(w:List UInt64):UInt64:=ZX (ZX (yG (at64 w 2) 12) (xN (at64 w 3) 14)) (xN (at64 w 4) 40)
def DZ{w:List UInt64}(h:ZK w):US w=zae (qi w)/\UT w=zae (qi w/18446744073709551616):=by
 have ag:=h.2 0 ae;have aM:=h.2 1 ae;have aM:=h.2 2 ae;have aM:=h.2 3 ae;have aM:=h.2 4 ae;have ej:(xN (at64 w 1) 26).toNat=(at64 w 1).toNat*67108864:=by rw[k8];show _*67108864%_=_;omega
 have iF:(xN (at64 w 2) 52).toNat=(at64 w 2).toNat*4503599627370496%18446744073709551616:=by rw[k8]
 have iG:(xN (at64 w 3) 14).toNat=(at64 w 3).toNat*16384:=by rw[k8];show _*16384%_=_;omega
 have iH:(xN (at64 w 4) 40).toNat=(at64 w 4).toNat*1099511627776%18446744073709551616:=by rw[k8]
 have iI:(yG (at64 w 2) 12).toNat=(at64 w 2).toNat/4096:=yO _ _;have oC:(ZX (at64 w 0) (xN (at64 w 1) 26)).toNat=(at64 w 0).toNat+(at64 w 1).toNat*67108864:=by
  rw[vR _ _ 26 (by show _<67108864;exact ag) (by rw[ej];show _*67108864%67108864=0;omega),ej]
 have oD:(ZX (yG (at64 w 2) 12) (xN (at64 w 3) 14)).toNat=(at64 w 2).toNat/4096+(at64 w 3).toNat*16384:=by
  rw[vR _ _ 14 (by rw[iI];show _<16384;omega) (by rw[iG];show _*16384%16384=0;omega),iG,iI]
 constructor
 ·apply zaU.1;unfold US;rw[vR _ _ 52 (by rw[oC];show _<4503599627370496;omega) (by rw[iF];show _%18446744073709551616%4503599627370496=0;omega),oC,iF,zbm];unfold qi;show _=_%18446744073709551616;omega
 ·apply zaU.1;unfold UT;rw[vR _ _ 40 (by rw[oD];show _<1099511627776;omega) (by rw[iH];show _%18446744073709551616%1099511627776=0;omega),oD,iH,zbm];unfold qi;show _=_%18446744073709551616;omega
def leN(b:La_):Nat:=(zeE b 0).toNat+18446744073709551616*(zeE b 8).toNat
def X2(n:Nat):La_:=zw (zae n)++zw (zae (n/18446744073709551616))
def Qk(n:Nat):(X2 n).length=16:=by simp[X2,zw]
open RowKit
def Y4{b:Nat}{w':World}(h:Only b w w'):Only b w w'.drew:=⟨h.os,h.tape,h.output,h.size,h.block⟩
def Blk.zeJ{P:Program}{b:Nat}{vs:Lb_}{ty':TypeId}(h:Blk w b vs ty'){ops:Array Oper}{rest:List Oper}{op:Oper}{a:Act}{Q:Exit->Act->World->Prop}{ty:TypeId}{x y:Operand}{v:Value}(hgd:op.guard=none)(ho:op.op=.store ty x y)(hx:a.eval x=.pointer (some ⟨b,i,none⟩))(hy:a.eval y=v)(hs:(P.info? ty).map (·.size)=some 1)(hv:v.cells=#[v])(h1:v.oneCell'=true)(hi:i<vs.length)(k:∀w',Blk w' b (vs.set i v) ty'->Only b w w'->wpList P ops Q rest (a.put op.dst undef) w'):wpList P ops Q (op::rest) a w :=
 wpList_plain hgd λ_ hK=>h.zd8 ho hx hy hs hv h1 hi λw' hb ho'=>hK _ _ (k w' hb ho')
section
attribute [local irreducible] zA zG zH zE
def zY:(pgm.info? 92).map (·.size)=some 1:=e0
def nY(n:Nat):Prop:=n=32\/n=24\/n=16\/n=63
def Fx(x:UInt64)(n:Nat)(w:World)(hn:nY n):C_e 194 #[L x,.int .i64 (-(n:Int))] w (L (uh x n)):=by
 rcases hn with rfl|rfl|rfl|rfl
 ·show Calls _ _ #[L x,.int .i64 (-32)] w _;have aT:IntKind.u64.wrap (-32)=18446744073709551584:=bd;have aU:bits .and .u64 (18446744073709551584) 63=32:=bd;exact as1
 ·show Calls _ _ #[L x,.int .i64 (-24)] w _;have aT:IntKind.u64.wrap (-24)=18446744073709551592:=bd;have aU:bits .and .u64 (18446744073709551592) 63=40:=bd;exact as1
 ·show Calls _ _ #[L x,.int .i64 (-16)] w _;have aT:IntKind.u64.wrap (-16)=18446744073709551600:=bd;have aU:bits .and .u64 (18446744073709551600) 63=48:=bd;exact as1
 ·show Calls _ _ #[L x,.int .i64 (-63)] w _;have aT:IntKind.u64.wrap (-63)=18446744073709551553:=bd;have aU:bits .and .u64 (18446744073709551553) 63=1:=bd;exact as1
def U2(pv a b c d n m:Nat)(x:UInt64)(vs:List UInt64)(w:World)(hb:Blk w pv (vs.map L) 277)(hl:vs.length=16)(ha:a<16)(hbl:b<16)(hc:c<16)(hd:d<16)(hn:nY n)(hm:nY m):Ca_ 191 #[pa_ pv,.int .i64 a,.int .i64 b,.int .i64 c,.int .i64 d,L x,.int .i64 n,.int .i64 m] w λe w'=>(∃v,e=.returned v)/\Blk w' pv ((zft vs a b c d x n m).map L) 277/\Only pv w w':=by refine ajJ hb hl hn ?_;intro uX A0 Nl;have PK:=zc hm;have I9:=zc (Only.refl pv w);have aD:IntKind.i64.wrap (-(n:Int))=-(n:Int):=IntWalk.i64_in _ (by unfold nY at hn;omega);have eh:IntKind.i64.wrap (-(m:Int))=-(m:Int):=IntWalk.i64_in _ (by unfold nY at hm;omega);obtain⟨aK,aL⟩:=n_ (vs.set a (zF (at64 vs a) (zF (at64 vs b) x)));obtain⟨OF,iA⟩:=n_ (aK.set d (uh (qV (at64 aK d) (at64 aK a)) n));obtain⟨PL,PN⟩:=n_ (OF.set c (zF (at64 OF c) (at64 OF d)));have EM:=ha_ (zft vs a b c d x n m=PL.set b (uh (qV (at64 PL b) (at64 PL c)) m)) (by rw[PN,iA,aL];rfl);have ER:=ha_ (aK.length=16) (by rw[aL,zav];exact hl);have PO:=ha_ (OF.length=16) (by rw[iA,zav];exact ER);have PQ:=ha_ (PL.length=16) (by rw[PN,zav];exact PO);refine ajJ aL iA PN ?_;intro OS PI PR;clear hb hl hn hm aL iA PN;go_enter func191,ntmps191;have az:=λ(x:zL w.drew)=>(uX.drew.below x.later uX.drew.lt).cell a _ (yR (yn (l:=vs) (i:=a) (by rw[A0.o];exact ha)));have AV:=λ(x:zL w.drew)=>(uX.drew.below x.later uX.drew.lt).cell b _ (yR (yn (l:=vs) (i:=b) (by rw[A0.o];exact hbl)));go_wp2_with fail;refine agE ?_;rintro A4 rfl;refine mqR ?_;clear az AV;refine aeA ?_;intro K hK;refine uX.drew.zd8 (v:=L (zF (at64 vs a) (zF (at64 vs b) x))) rfl rfl rfl zY rfl rfl (by rw[zaa,A0.o];exact ha) (λw2 hb2 ho2=>hK _ _ ?_);clear hK K;rw[xH,<-OS.o] at hb2;have uX:=zc hb2;have I9:=zc ((Y4 I9).trans ho2);clear hb2 ho2;refine aeS ?_;have az:=λ(x:zL w2.drew)=>(uX.drew.below x.later uX.drew.lt).cell a _ (yR (yn (l:=aK) (i:=a) (by rw[ER.o];exact ha)));have AV:=λ(x:zL w2.drew)=>(uX.drew.below x.later uX.drew.lt).cell d _ (yR (yn (l:=aK) (i:=d) (by rw[ER.o];exact hd)));go_wp2_with fail;refine zp [0,1,2,3,4,5,6,7,8,9,10,11,12,13,14,16,15,17,18] e0 e0 ?_;rintro A4 rfl;refine mqR ?_;clear az AV;refine Pm ?_;intro K hK;refine(Fx _ n _ Nl).mono ?_;rintro e A4⟨rfl,rfl⟩;go_simp;refine hK _ _ (Below.refl _ _) ?_;clear hK K;refine aiG ?_;intro K hK;refine uX.drew.zd8 (v:=L (uh (qV (at64 aK d) (at64 aK a)) n)) rfl rfl rfl zY rfl rfl (by rw[zaa,ER.o];exact hd) (λw4 hb4 ho4=>hK _ _ ?_);clear hK K;rw[xH,<-PI.o] at hb4;have uX:=zc hb4;have I9:=zc ((Y4 I9).trans ho4);clear hb4 ho4;refine aeS ?_;have az:=λ(x:zL w4.drew)=>(uX.drew.below x.later uX.drew.lt).cell c _ (yR (yn (l:=OF) (i:=c) (by rw[PO.o];exact hc)));have AV:=λ(x:zL w4.drew)=>(uX.drew.below x.later uX.drew.lt).cell d _ (yR (yn (l:=OF) (i:=d) (by rw[PO.o];exact hd)));go_wp2_with fail;refine ahE ?_;rintro A4 rfl;refine mqR ?_;clear az AV;refine aeA ?_;intro K hK;refine uX.drew.zd8 (v:=L (zF (at64 OF c) (at64 OF d))) rfl rfl rfl zY rfl rfl (by rw[zaa,PO.o];exact hc) (λw6 hb6 ho6=>hK _ _ ?_);clear hK K;rw[xH,<-PR.o] at hb6;have uX:=zc hb6;have I9:=zc ((Y4 I9).trans ho6);clear hb6 ho6;refine aeS ?_;have az:=λ(x:zL w6.drew)=>(uX.drew.below x.later uX.drew.lt).cell b _ (yR (yn (l:=PL) (i:=b) (by rw[PQ.o];exact hbl)));have AV:=λ(x:zL w6.drew)=>(uX.drew.below x.later uX.drew.lt).cell c _ (yR (yn (l:=PL) (i:=c) (by rw[PQ.o];exact hc)));go_wp2_with fail;refine zp [0,1,2,3,4,5,6,7,8,9,10,11,12,13,14,16,15,17,18] e0 e0 ?_;rintro A4 rfl;refine mqR ?_;clear az AV;refine Pm ?_;intro K hK;refine(Fx _ m _ PK).mono ?_;rintro e A4⟨rfl,rfl⟩;go_simp;refine hK _ _ (Below.refl _ _) ?_;clear hK K;refine aiG ?_;intro K hK;refine uX.drew.zd8 (v:=L (uh (qV (at64 PL b) (at64 PL c)) m)) rfl rfl rfl zY rfl rfl (by rw[zaa,PQ.o];exact hbl) (λw8 hb8 ho8=>hK _ _ ?_);clear hK K;rw[xH,<-EM.o] at hb8;have uX:=zc hb8;have I9:=zc ((Y4 I9).trans ho8);clear hb8 ho8;refine aeS ?_;exact agm
def Lj(pv i y':Nat)(x y:UInt64)(vs:List UInt64)(w:World)(hb:Blk w pv (vs.map L) 277)(hl:vs.length=16)(hi:i<4)(hy:y'<2):Ca_ 186 #[pa_ pv,.int .i64 i,.int .i64 y',L x,L y] w λe w'=>(∃v,e=.returned v)/\Blk w' pv ((ft vs i y' x y).map L) 277/\Only pv w w':=by obtain⟨r1,eI⟩:=n_ ((i+y')%4);obtain⟨r2,PS⟩:=n_ ((i+2*y')%4);obtain⟨r3,PT⟩:=n_ ((i+3*y')%4);obtain⟨q1,eA⟩:=n_ (4+r1);obtain⟨q2,PU⟩:=n_ (8+r2);obtain⟨q3,PV⟩:=n_ (12+r3);have ai:((i:Int)+(y':Int))%4=(r1:Int):=ae;have ai:((i:Int)+2*(y':Int))%4=(r2:Int):=ae;have ai:((i:Int)+3*(y':Int))%4=(r3:Int):=ae;have ib:(4:Int)+(r1:Int)=(q1:Int):=ae;have ib:(8:Int)+(r2:Int)=(q2:Int):=ae;have ib:(12:Int)+(r3:Int)=(q3:Int):=ae;have EM:=ha_ (ft vs i y' x y=zft (zft vs i q1 q2 q3 x 32 24) i q1 q2 q3 y 16 63) (by rw[eA,PU,PV,eI,PS,PT];rfl);have ie:q1<16:=ae;have oL:q2<16:=ae;have oM:q3<16:=ae;have uX:=zc hb;have A0:=zc hl;clear hb hl eA PU PV eI PS PT;go_enter func186,ntmps186;go_wp2_with fail;refine(U2 pv i q1 q2 q3 32 24 x vs _ uX A0 ae ie oL oM (.inl rfl) (.inr (.inl rfl))).mono ?_;rintro e A4⟨⟨aK,rfl⟩,aF,oE⟩;have uX:=zc aF;have I9:=zc oE;have A0:=ha_ ((zft vs i q1 q2 q3 x 32 24).length=16) (by rw[Js];exact A0);generalize zft vs i q1 q2 q3 x 32 24=NU at*;go_wp2_with fail;refine(U2 pv i q1 q2 q3 16 63 y NU _ uX A0 ae ie oL oM (.inr (.inr (.inl rfl))) (.inr (.inr (.inr rfl)))).mono ?_;rintro e A4⟨⟨aK,rfl⟩,aF,oE⟩;rw[<-EM.o] at aF;have uX:=zc aF;have I9:=zc (I9.trans oE);exact agm
end
variable{w w' u:World}{h:List UInt64}{b c o n:Nat}{vs:Lb_}{ty ty':TypeId}{P:Program}{op:Oper}{a:Act}{Q:Exit->Act->World->Prop}{x y:Operand}
section
attribute [local irreducible] zA zG zH zE zR
instance (b:Nat)(w:World):Nonempty (zO (Only b) w):=⟨⟨w,Only.refl b w⟩⟩
structure yi(w:World):Prop where
 first:Blk w 2 (Ym.map L) (ze3 w 2)
 rows:Blk w 4 (mY.map B) (ze3 w 4)
def yi.below(h:yi w)(hb:Below w.heap.size w w'):yi w':=by
 have ai:ze3 w' 2=ze3 w 2:=by unfold ze3;rw[hb.block _ h.first.lt]
 have aj:ze3 w' 4=ze3 w 4:=by unfold ze3;rw[hb.block _ h.rows.lt]
 exact⟨by rw[ai];exact h.first.below hb h.first.lt,by rw[aj];exact h.rows.below hb h.rows.lt⟩
def jP:Row pgm 237 8:=⟨e0,e0⟩
def nZ:Row pgm 261 128:=⟨e0,e0⟩
def jv(n:Nat):List UInt64:=zah n 0
def YD(n:Nat):(jv n).length=n:=by simp[jv]
def n5:(pgm.info? 237).map (·.zero)=some (some (.agg ((jv 8).map L).toArray)):=e0
def JT:(pgm.info? 277).map (·.zero)=some (some (.agg ((jv 16).map L).toArray)):=e0
def Fy(x:UInt64):qV (zae 18446744073709551615) x=mM x:=by unfold qV mM;rw[show zae 18446744073709551615=-1 from rfl,UInt64.neg_one_xor]
def VD(l:List UInt64):∀v∈l.map L,v.oneCell'=true:=by intro v aL;obtain⟨ef,_,rfl⟩:=List.mem_map.1 aL;rfl
def kP(h:List UInt64)(i:Nat):List UInt64:=(zax 16).map λk=>if k%8<i then Z3 h k else 0
def kr(h:List UInt64)(i:Nat):(kP h i).length=16:=by simp[kP]
def lD(h:List UInt64):kP h 0=jv 16:=by
 apply zaK;intro Pp;by_cases aQ:Pp<16
 ·unfold kP jv;rw[List.getElem?_map,List.getElem?_range aQ,List.getElem?_replicate,if_pos aQ];rfl
 ·rw[zaf (by rw[kr];omega),zaf (by rw[YD];omega)]
def lE(h:List UInt64):kP h 8=Yo h:=by unfold kP Yo;apply zcq;intro Pp _;rw[if_pos (Nat.mod_lt _ ae)]
def lF(h:List UInt64){i:Nat}(hi:i<8):((kP h i).set i (at64 h i)).set (i+8) (at64 Ym i)=kP h (i+1):=by
 apply zaK;intro Pp;by_cases aQ:Pp<16
 ·rw[zbb,zbb];have ai:∀j,(kP h j)[Pp]? = some (if Pp%8<j then Z3 h Pp else 0):=λj=>by simp[kP,aQ]
  rw[ai,ai,zav,kr];by_cases ag:i+8=Pp
  ·subst ag;rw[if_pos rfl,if_pos aQ,if_pos ae];unfold Z3;rw[if_neg ae,Nat.add_sub_cancel]
  ·rw[if_neg ag];by_cases ag:i=Pp
   ·subst ag;rw[if_pos rfl,if_pos aQ,if_pos ae];unfold Z3;rw[if_pos hi]
   ·rw[if_neg ag];by_cases ag:Pp%8<i
    ·exact ain
    ·rw[if_neg ag,if_neg ae]
 ·rw[zaf (by simp[kr];omega),zaf (by rw[kr];omega)]
def wZ(h v:List UInt64)(i:Nat):List UInt64:=(zax 8).map λk=>if k<i then uk h v k else at64 h k
def jm(h v:List UInt64)(i:Nat):(wZ h v i).length=8:=by simp[wZ]
def tA(v:List UInt64)(hh:h.length=8):wZ h v 0=h:=by
 apply zaK;intro Pp;by_cases aQ:Pp<8
 ·rw[yn (l:=h) ae];simp[wZ,aQ]
 ·rw[zaf (by rw[jm];omega),zaf ae]
def tB(h v:List UInt64):wZ h v 8=(zax 8).map (uk h v):=by unfold wZ;apply zcq;intro Pp aQ;rw[if_pos (by simpa using aQ)]
def Fz(h v:List UInt64){i:Nat}(hi:i<8):(wZ h v i)[i]? = some (at64 h i):=by simp[wZ,hi]
def tD(h v:List UInt64){i:Nat}(hi:i<8):(wZ h v i).set i (uk h v i)=wZ h v (i+1):=by
 apply zaK;intro Pp;by_cases aQ:Pp<8
 ·rw[zbb];have ai:∀j,(wZ h v j)[Pp]? = some (if Pp<j then uk h v Pp else at64 h Pp):=λj=>by simp[wZ,aQ]
  rw[ai,ai,jm];by_cases ag:i=Pp
  ·subst ag;rw[if_pos rfl,if_pos aQ,if_pos ae]
  ·rw[if_neg ag];by_cases ag:Pp<i
   ·exact ain
   ·rw[if_neg ag,if_neg ae]
 ·rw[zaf (by simp[jm];omega),zaf (by rw[jm];omega)]
abbrev wJ(bb b1 b2 b3 b4 b5:Nat)(tf tr:TypeId)(blk:La_)(lo hi:UInt64)(h m v:List UInt64):List (Nat×Lb_×TypeId) :=
 [(b5,v.map L,277),(b4,m.map L,277),(b3,(jv 8).map L,237),(b2,[L lo,L hi],146),(b1,blk.map B,261),(bb,h.map L,237),(2,Ym.map L,tf),(4,mY.map B,tr)]
def zkQ(m:List UInt64)(row:La_)(v:List UInt64):List UInt64:=zeW m row v 8
def U3{r i:Nat}(hr:r<10)(hi:i<16):(vN r)[i]? = some (at8 (vN r) i):=a01 (by rw[V1 hr];exact hi)
def n6(h:List UInt64)(blk:La_)(lo up:UInt64)(w:World)(hh:h.length=8)(hk:blk.length=128)(hg:yi w):C_b 172 #[.agg (h.map L).toArray,.agg (blk.map B).toArray,.agg #[L lo,L up],.bool true] w (.agg ((compress h blk lo up true).map L).toArray):=by
 have PW:=zc hh;have PX:=ha_ ((h.map L).length=8) (by rw[zaa];exact hh);have MM:=zc hk;have M8:=zc hg;have AI:=hg.first.lt;have NS:=hg.rows.lt;have EW:=zc (((St.start w).add hg.rows).add hg.first);clear hh hk hg;go_enter func172,ntmps172;go_wp2_with (refine zh 237 _ (h.map L) _ rfl rfl rfl rfl ?_);refine am7 ?_;intro A4 aF sy EW aB;go_wp2_with (refine zh 261 _ (blk.map B) _ rfl rfl rfl rfl ?_);refine anw EW ?_;intro Ev aF sy EW II;go_wp2_with (refine zh 146 _ ([L lo,L up]) _ rfl rfl rfl rfl ?_);refine amg ?_;intro IX aF sy EW aB;go_wp2_with (refine zf 237 ((jv 8).map L) _ rfl rfl n5 rfl ?_);refine amx ?_;intro MF aF sy EW MJ;go_wp2_with (refine zf 277 ((jv 16).map L) _ rfl rfl JT rfl ?_);refine anw EW ?_;intro Na aF sy EW PY;go_wp2_with (refine zf 277 ((jv 16).map L) _ rfl rfl JT rfl ?_);refine anw EW ?_;intro Nf aF sy EW PZ;generalize ze3 w 2=R0 at*;generalize ze3 w 4=Ov at*;generalize M1:w.heap.size=MN at*;generalize A4.heap.size=Nh at*;generalize Ev.heap.size=R1 at*;generalize IX.heap.size=R2 at*;generalize MF.heap.size=R3 at*;generalize Na.heap.size=bw5 at*;have IZ:=zc M1;clear M1;have EW:=ha_ (St w MN Nf (wJ MN Nh R1 R2 R3 bw5 R0 Ov blk lo up h (jv 16) (jv 16))) EW;go_wp2;go_loopw [17] (λc wr=>∃(i:Nat)(l:List UInt64),i<=16/\c=.int .i64 i/\Hid (yv (λk=>zeE blk (8*k)) 16 i l)/\Hid (St w MN wr (wJ MN Nh R1 R2 R3 bw5 R0 Ov blk lo up h l (jv 16)))) (λc _=>16-(intOf c).toNat);case atStart=>exact⟨0,jv 16,ae,rfl,yv.zero (YD 16),EW⟩
 case round =>
  clear EW;obtain⟨i,l,aO,rfl,I3,EW⟩:=hrel;by_cases MI:i<16
  ·obtain⟨j,aA⟩:=n_ (8*i);have ai:(8:Int)*(i:Int)=(j:Int):=ae;have R4:j<=128:=ae;obtain⟨ef,aH⟩:=I3.at MI;have EZ:=zc aH;have N6:=zc (I3.step MI);have N6:=ha_ (yv (λk=>zeE blk (8*k)) 16 (i+1) (l.set i (zeE blk j))) (by rw[aA];exact N6);clear aA aH;go_wp2_with fail;refine(lv (some ⟨Nh,0,none⟩) 128 128 j blk _ MM ae ae (EW.get 4 rfl).lies).mono ?_;rintro aj OG⟨rfl,Eu⟩;have EW:=zc (EW.later Eu);generalize zeE blk j=x at*;clear Eu;go_wp2_with (refine EW.g1.zeJ (v:=L x) (i:=i) rfl rfl rfl rfl zY rfl rfl (by rw[zaa,I3.1];exact MI) ?_);intro w8 hb8 ho8;rw[xH] at hb8;have EW:=ha_ (St w MN w8 (wJ MN Nh R1 R2 R3 bw5 R0 Ov blk lo up h (l.set i x) (jv 16))) (EW.change 1 hb8 ho8 ae bq);go_wp2;go_roundw;case rel=>exact⟨i+1,_,ae,hM,N6,EW⟩
   case measure=>simp[intOf];omega
  ·obtain rfl:i=16:=ae;have eh:=I3.all;have EW:=ha_ (St w MN wr (wJ MN Nh R1 R2 R3 bw5 R0 Ov blk lo up h (numbers blk) (kP h 0))) (by rw[lD,numbers,<-eh];exact EW);clear eh I3;go_wp2;simp only[zco];go_loopw [27] (λc wr=>∃i:Nat,i<=8/\c=.int .i64 i/\Hid (St w MN wr (wJ MN Nh R1 R2 R3 bw5 R0 Ov blk lo up h (numbers blk) (kP h i)))) (λc _=>8-(intOf c).toNat);case atStart=>exact⟨0,ae,rfl,EW⟩
   case round =>
    clear EW;obtain⟨i,aO,rfl,EW⟩:=hrel;by_cases MI:i<8
    ·have az:=λ(x:zO (Only bw5) wr.drew)=>((EW.drew.get 5 rfl).only x.rel ae).cell i _ (yR (yn (l:=h) (i:=i) (by rw[PW.o];exact MI)));have AV:=λ(x:zO (Only bw5) wr.drew)=>((EW.drew.get 6 rfl).only x.rel ae).cell i _ (yR (yn (l:=Ym) (i:=i) (by exact MI)));have P7:=zc (lF h MI);go_wp2_with fail;refine yg (Only bw5) [] [(0,true),(1,true),(2,true),(3,true),(4,true),(5,true),(6,true),(7,true),(8,true),(9,true),(10,false),(11,true),(12,false)] (Only.refl _) (λ_ _ _ h k=>h.trans k) e0 e0 ?_;rintro OG rfl;iterate 10 refine m1K ?_
     clear az AV;refine aeR ?_;intro K hK;refine(EW.drew.get 0 rfl).zd8 (v:=L (at64 h i)) rfl rfl rfl zY rfl rfl (by rw[zaa,kr];omega) (λw8 hb8 ho8=>hK _ _ (λ_=>ho8) ?_);clear hK K;rw[xH] at hb8;have EW:=ha_ (St w MN w8 (wJ MN Nh R1 R2 R3 bw5 R0 Ov blk lo up h (numbers blk) ((kP h i).set i (at64 h i)))) (EW.drew.change 0 hb8 ho8 ae bq);clear hb8 ho8;go_simp;refine m1K ?_;refine aeR ?_;intro K hK;refine EW.g0.zd8 (v:=L (at64 Ym i)) rfl rfl rfl zY rfl rfl (by rw[zaa,zav,kr];omega) (λw9 hb9 ho9=>hK _ _ (λ_=>ho9) ?_);clear hK K;rw[xH,P7.o] at hb9;have EW:=ha_ (St w MN w9 (wJ MN Nh R1 R2 R3 bw5 R0 Ov blk lo up h (numbers blk) (kP h (i+1)))) (EW.change 0 hb9 ho9 ae bq);clear hb9 ho9;go_simp;refine yB ?_;exact aeV
    ·obtain rfl:i=8:=by omega
     rw[lE] at EW;have AW:=EW.g0.cell 12 _ (yR (yn (l:=Yo h) (i:=12) (by rw[we];omega)));have eS:=(EW.get 3 rfl).cell 0 _ rfl;go_wp2_with (refine EW.g0.zeJ (v:=L (qV (at64 (Yo h) 12) lo)) (i:=12) rfl rfl rfl rfl zY rfl rfl (by rw[zaa,we];omega) ?_);intro w8 hb8 ho8;rw[xH] at hb8;obtain⟨aK,aL⟩:=n_ ((Yo h).set 12 (qV (at64 (Yo h) 12) lo));rw[<-aL] at hb8;have EW:=ha_ (St w MN w8 (wJ MN Nh R1 R2 R3 bw5 R0 Ov blk lo up h (numbers blk) aK)) (EW.change 0 hb8 ho8 ae bq);have A0:=ha_ (aK.length=16) (by rw[aL,zav];exact we h);have OS:=zc aL;clear AW eS aL;have AW:=EW.g0.cell 13 _ (yR (yn (l:=aK) (i:=13) fb));have R5:=(EW.get 3 rfl).cell 1 _ rfl;go_wp2_with (refine EW.g0.zeJ (v:=L (qV (at64 aK 13) up)) (i:=13) rfl rfl rfl rfl zY rfl rfl (by rw[zaa,A0.o];omega) ?_);intro w9 hb9 ho9;rw[xH] at hb9;have aL:aK.set 13 (qV (at64 aK 13) up)=vO h lo up:=by rw[OS.o];rfl
     rw[aL] at hb9;have EW:=ha_ (St w MN w9 (wJ MN Nh R1 R2 R3 bw5 R0 Ov blk lo up h (numbers blk) (vO h lo up))) (EW.change 0 hb9 ho9 ae bq);clear AW R5 aL;have AW:=EW.g0.cell 14 _ (yR (yn (l:=vO h lo up) (i:=14) (by rw[Yp];omega)));have EX:=ha_ ((vO h lo up).set 14 (mM (at64 (vO h lo up) 14))=a0l h lo up true) rfl;have R6:IntKind.u64.signed=false:=rfl;have R7:IntKind.u64.max=18446744073709551615:=bd;have Nl:=ha_ (qV 18446744073709551615 (at64 (vO h lo up) 14)=mM (at64 (vO h lo up) 14)) (Fy _);go_wp2_with (refine EW.g0.zeJ (v:=L (qV (zae 18446744073709551615) (at64 (vO h lo up) 14))) (i:=14) rfl rfl rfl rfl zY rfl rfl (by rw[zaa,Yp];omega) ?_);intro A4 MZ AN;rw[xH,Nl.o,EX.o] at MZ;have EW:=ha_ (St w MN A4 (wJ MN Nh R1 R2 R3 bw5 R0 Ov blk lo up h (numbers blk) (a0l h lo up true))) (EW.change 0 MZ AN ae bq);clear MZ AN AW R6 R7;have R8:=ha_ (compress h blk lo up true=(zax 8).map (uk h (zeh (numbers blk) (a0l h lo up true) 12))/\True) ⟨rfl,trivial⟩;have R9:=zc (uj blk);have Ra:=zc (df h lo up true);generalize a0l h lo up true=Rb at*;generalize numbers blk=Rc at*;go_wp2;try simp only[zco]
     go_loopw [59] (λc wr=>∃r:Nat,r<=12/\c=.int .i64 r/\Hid (St w MN wr (wJ MN Nh R1 R2 R3 bw5 R0 Ov blk lo up h Rc (zeh Rc Rb r)))) (λc _=>12-(intOf c).toNat);case atStart=>exact⟨0,ae,rfl,EW⟩
     case round =>
      clear EW;obtain⟨r,eI,rfl,EW⟩:=hrel;by_cases MI:r<12
      ·obtain⟨q,eA⟩:=n_ (r%10);have ai:(r:Int)%10=(q:Int):=ae;have Rd:q<10:=ae;have IP:=ha_ (zkQ Rc (vN q) (zeh Rc Rb r)=zeh Rc Rb (r+1)/\True) ⟨by rw[eA];rfl,trivial⟩;have Re:=ha_ ((zeh Rc Rb r).length=16) (by rw[ZH];exact Ra);clear eA;generalize zeh Rc Rb r=Rf at*;have Rg:=zc (Blk.zea (EW.get 7 rfl) (q*16) 16 ((vN q).map B) (by rw[<-zcb,<-zbW,Nat.mul_comm];rfl));have Nv:=l_ (vN q) 16 (V1 Rd);go_wp2_with (first|(refine wpList_load_mid rfl 144 (.tmp 64) rfl 4 (q*16) rfl _ _ Rg underlying144 rfl (by rw[Nv.o];exact zd.2) ?_)|(refine zf 144 ((zg 16).map B) _ rfl rfl zl rfl ?_));intro A4 aF sy;have aT:=EW.g0.lt;have EW:=zc (EW.push aF sy);have Rh:=aF.lt;generalize wr.heap.size=MO at*;go_wp2_with (refine EW.g0.zdP rfl rfl rfl rfl zd ev Nv (zj _) ?_);intro A4 Ri Rj;have EW:=ha_ (St w MN A4 ((MO,(vN q).map B,144)::wJ MN Nh R1 R2 R3 bw5 R0 Ov blk lo up h Rc Rf)) (EW.change 0 Ri Rj ae bq);clear Ri Rj;go_wp2;go_loopw [66] (λc ws=>∃i:Nat,i<=8/\c=.int .i64 i/\Hid (St w MN ws ((MO,(vN q).map B,144)::wJ MN Nh R1 R2 R3 bw5 R0 Ov blk lo up h Rc (zeW Rc (vN q) Rf i)))) (λc _=>8-(intOf c).toNat);case atStart=>exact⟨0,ae,rfl,EW⟩
       case round =>
        clear EW;obtain⟨i,aO,rfl,EW⟩:=hrel;by_cases II:i<8
        ·obtain⟨i4,ig⟩:=n_ (i%4);obtain⟨iq,Rk⟩:=n_ (i/4);obtain⟨j,aA⟩:=n_ (2*i);have ib:(i:Int)%4=(i4:Int):=ae;have ib:(i:Int)/4=(iq:Int):=ae;have ib:(2:Int)*(i:Int)=(j:Int):=ae;have R4:j+1<16:=ae;have ie:i4<4:=ae;have oL:iq<2:=ae;have P7:=ha_ (ft (zeW Rc (vN q) Rf i) i4 iq (at64 Rc (at8 (vN q) j).toNat) (at64 Rc (at8 (vN q) (j+1)).toNat)=zeW Rc (vN q) Rf (i+1)/\True) ⟨by rw[ig,Rk,aA];rfl,trivial⟩;have Rl:=ha_ ((zeW Rc (vN q) Rf i).length=16) (by rw[Yn];exact Re);have aH:=ui q Rd j ae;have aH:=ui q Rd (j+1) ae;have az:=λ(x:zO (Below wr.heap.size) wr.drew)=>((EW.drew.later x.rel).get 0 rfl).cell j _ (zX (U3 Rd (i:=j) ae));have AV:=λ(x:zO (Below wr.heap.size) wr.drew)=>((EW.drew.later x.rel).get 0 rfl).cell (j+1) _ (zX (U3 Rd (i:=j+1) ae));have AW:=λ(x:zO (Below wr.heap.size) wr.drew)=>((EW.drew.later x.rel).get 2 rfl).cell (at8 (vN q) j).toNat _ (yR (yn (l:=Rc) (i:=(at8 (vN q) j).toNat) (by rw[R9.o];omega)));have Rm:=λ(x:zO (Below wr.heap.size) wr.drew)=>((EW.drew.later x.rel).get 2 rfl).cell (at8 (vN q) (j+1)).toNat _ (yR (yn (l:=Rc) (i:=(at8 (vN q) (j+1)).toNat) (by rw[R9.o];omega)));generalize at8 (vN q) j=eY at*;generalize at8 (vN q) (j+1)=eZ at*;generalize zeW Rc (vN q) Rf i=Rn at*;clear ig Rk aA;go_wp2_with fail;refine yg (Below wr.heap.size) [17] [(0,true),(1,true),(2,true),(3,true),(4,true),(5,true),(6,true),(7,true),(8,true),(9,true),(10,true),(11,true),(12,true),(13,true),(14,true),(15,true),(16,true),(17,false)] (Below.refl _) (λ_ _ _ h k=>h.trans k) e0 e0 ?_;rintro A4 rfl;iterate 17 refine m1K ?_
         clear az AV AW Rm;refine al8 ?_;intro K hK;refine(Lj bw5 i4 iq (at64 Rc eY.toNat) (at64 Rc eZ.toNat) Rn _ (EW.drew.get 1 rfl) Rl ie oL).mono ?_;rintro aj A4⟨⟨aK,rfl⟩,Ni,Ro⟩;rw[P7.1] at Ni;have EW:=ha_ (St w MN A4 ((MO,(vN q).map B,144)::wJ MN Nh R1 R2 R3 bw5 R0 Ov blk lo up h Rc (zeW Rc (vN q) Rf (i+1)))) (EW.drew.change 1 Ni Ro ae bq);clear Ni Ro;go_simp;refine hK _ _ (λhno=>absurd hno bd) ?_;clear hK K;refine yB ?_;exact aeV
        ·obtain rfl:i=8:=ae;have EW:=zc EW.tail;rw[show zeW Rc (vN q) Rf 8=zeh Rc Rb (r+1) from IP.1] at EW;go_wp2;go_roundw;case rel=>exact⟨r+1,ae,hM,EW⟩
         case measure=>simp[intOf];omega
      ·obtain rfl:r=12:=ae;have PI:=ha_ ((zeh Rc Rb 12).length=16) (by rw[ZH];exact Ra);generalize zeh Rc Rb 12=OF at*;have EW:=ha_ (St w MN wr (wJ MN Nh R1 R2 R3 bw5 R0 Ov blk lo up (wZ h OF 0) Rc OF)) (by rw[tA OF PW.o];exact EW);rw[<-tB] at R8;have Rp:=zc PX.o;go_wp2;try simp only[zco]
       go_loopw [89] (λc wr=>∃i:Nat,i<=8/\c=.int .i64 i/\Hid (St w MN wr (wJ MN Nh R1 R2 R3 bw5 R0 Ov blk lo up (wZ h OF i) Rc OF))) (λc _=>8-(intOf c).toNat);case atStart=>exact⟨0,ae,rfl,EW⟩
       case round =>
        clear EW;obtain⟨i,aO,rfl,EW⟩:=hrel;by_cases II:i<8
        ·have P7:=zc (tD h OF II);have az:=λ(x:zL wr.drew)=>((EW.drew.later x.later).get 5 rfl).cell i _ (yR (Fz h OF II));have AV:=λ(x:zL wr.drew)=>((EW.drew.later x.later).get 0 rfl).cell i _ (yR (yn (l:=OF) (i:=i) (by rw[PI.o];omega)));have AW:=λ(x:zL wr.drew)=>((EW.drew.later x.later).get 0 rfl).cell (i+8) _ (yR (yn (l:=OF) (i:=i+8) (by rw[PI.o];omega)));go_wp2_with fail;refine ahE ?_;rintro A4 rfl;refine mqR ?_;clear az AV AW;refine aeA ?_;intro K hK;refine(EW.drew.get 5 rfl).zd8 (v:=L (uk h OF i)) rfl rfl rfl zY rfl rfl (by rw[zaa,jm];omega) (λw16 zge zhw=>hK _ _ ?_);clear hK K;rw[xH,P7.o] at zge;have EW:=ha_ (St w MN w16 (wJ MN Nh R1 R2 R3 bw5 R0 Ov blk lo up (wZ h OF (i+1)) Rc OF)) (EW.drew.change 5 zge zhw ae bq);clear zge zhw;refine aeS ?_;exact aeV
        ·obtain rfl:i=8:=ae;have I9:=ha_ (((wZ h OF 8).map L).length=8) (by rw[zaa];exact jm _ _ _);go_wp2_with (first|(refine(EW.get 5 rfl).zdS rfl rfl rfl jP I9 ?_)|(refine EW.g2.zdP rfl rfl rfl rfl jP (by simp[YD]) I9 (VD _) ?_));intro A4 Rq Rs;have Rt:=zi EW.bel Rs ae;go_wp2;refine Rq.result rfl rfl rfl jP I9 ⟨by rw[R8.1],?_⟩;rw[IZ.o];exact Rt
structure zJ(b:Nat)(w w':World):Prop where
 os:w'.os=w.os
 tape:w'.tape=w.tape
 output:w'.output=w.output
 size:w.heap.size<=w'.heap.size
 block:∀k,k<w.heap.size->k≠b->w'.heap[k]? = w.heap[k]?
def zJ.refl(b:Nat)(w:World):zJ b w w:=⟨rfl,rfl,rfl,zab _,λ_ _ _=>rfl⟩
def zJ.trans{v:World}(h:zJ b u v)(k:zJ b v w):zJ b u w :=
 ⟨k.os.trans h.os,k.tape.trans h.tape,k.output.trans h.output,zat h.size k.size,λi hi hne=>(k.block i (za1 hi h.size) hne).trans (h.block i hi hne)⟩
def zJ.of_below(h:Below w.heap.size w w'):zJ b w w':=⟨h.os,h.tape,h.output,h.size,λk hk _=>h.block k hk⟩
def zJ.zd1(h:Only b w w'):zJ b w w':=⟨h.os,h.tape,h.output,by rw[h.size];exact zab _,λk _ hne=>h.block k hne⟩
def zJ.drew(h:zJ b w w'):zJ b w w'.drew:=⟨h.os,h.tape,h.output,h.size,h.block⟩
def zJ.other{v:World}(h:zJ b u v)(k:Only c v w)(hc:u.heap.size<=c):zJ b u w :=
 ⟨k.os.trans h.os,k.tape.trans h.tape,k.output.trans h.output,by rw[k.size];exact h.size,λi hi hne=>(k.block i ae).trans (h.block i hi hne)⟩
def Blk.zeD(h:Blk w c vs ty)(ho:zJ b w w')(hne:c≠b):Blk w' c vs ty:=(ho.block c h.lt hne).trans h
def wK{B:Nat}(h:Below B u w)(ho:zJ b w w')(hb:B<=b)(hB:B<=w.heap.size):Below B u w' :=
 ⟨ho.os.trans h.os,ho.tape.trans h.tape,ho.output.trans h.output,zat h.size ho.size,λk hk=>(ho.block k (za1 hk hB) ae).trans (h.block k hk)⟩
def Blk.zgf(h:Blk w b vs ty'){ops:Array Oper}{rest:List Oper}{cs:Lb_}(hgd:op.guard=none)(ho:op.op=.store ty x y)(hx:a.eval x=.pointer (some ⟨b,o,none⟩))(hy:a.eval y=.agg cs.toArray)(hr:Row P ty n)(hc:cs.length=n)(hfit:o+n<=vs.length)(h1:∀v∈cs,v.oneCell'=true)(k:∀w',Blk w' b (vs.take o++cs++vs.drop (o+cs.length)) ty'->Only b w w'->wpList P ops Q rest (a.put op.dst undef) w'):wpList P ops Q (op::rest) a w:=by obtain⟨aN,aw,ah,aO⟩:=hr.open;refine wpList_store_mid hgd ty x y ho b o cs.toArray hx hy (h.there o _ (by rw[zbT];omega)) c8 (all_oneCell_toArray h1) ?_;exact k (w.setCells b o cs) (Blk.setCells cs vs o w ae h) (Only.setCells b cs o w)
def Blk.zeC(h:Blk w b vs ty'){K:Act->World->Prop}{cs:Lb_}(ho:op.op=.store ty x y)(hx:a.eval x=.pointer (some ⟨b,o,none⟩))(hy:a.eval y=.agg cs.toArray)(hr:Row P ty n)(hc:cs.length=n)(hfit:o+n<=vs.length)(h1:∀v∈cs,v.oneCell'=true)(k:∀w',Blk w' b (vs.take o++cs++vs.drop (o+cs.length)) ty'->Only b w w'->K (a.put op.dst undef) w'):op.wp P a w K Q:=by obtain⟨aN,aw,ah,aO⟩:=hr.open;refine wp_store_mid ty x y ho b o cs.toArray hx hy (h.there o _ (by rw[zbT];omega)) c8 (all_oneCell_toArray h1) ?_;exact k (w.setCells b o cs) (Blk.setCells cs vs o w ae h) (Only.setCells b cs o w)
def fM(x:Int)(hx:0<=x/\x<=18446744073709551615)(w:World):(callFunc 184 #[.int .u64 0,.int .u64 x,.int .u64 0]).run pgm w=.ok (.value (.tuple #[.int .u64 x,.int .u64 0])) w:=by rw[run_callFunc_extern func184 e0 e0 e0 (e:=add64Entry) e0,run_add64 0 x 0 ae hx.1 ae ae];have ai:(0+x+0)%18446744073709551616=x:=ae;have aj:(0+x+0)/18446744073709551616=0:=ae;rw[ai,aj];rfl
def JU(a b:Int):∀v∈[Value.int .u64 a,.int .u64 b],v.oneCell'=true:=by intro v aL;simp at aL;rcases aL with rfl|rfl<;>rfl
def FA(n:Nat)(w:World)(hn:n<=1024):C_b 171 #[.agg #[.int .u64 0,.int .u64 0],.agg #[.int .u64 n,.int .u64 0]] w (.agg #[.int .u64 n,.int .u64 0]):=by refine aeC ?_;intro EW;have eI:=λw=>fM (n:Int) ae w;have eI:=λw=>fM 0 ae w;go_enter func171,ntmps171;go_wp2_with (refine zh 146 _ ([.int .u64 0,.int .u64 0]) _ rfl rfl rfl rfl ?_);refine am7 ?_;intro A4 aF sy EW aB;go_wp2_with (refine zh 146 _ ([.int .u64 n,.int .u64 0]) _ rfl rfl rfl rfl ?_);refine amb ?_;intro Ev aF sy EW aB;go_wp2_with (refine zf 146 [.int .u64 0,.int .u64 0] _ rfl rfl z4 rfl ?_);refine amg ?_;intro IX aF sy EW aB;generalize M1:w.heap.size=MN at*;generalize A4.heap.size=Nh at*;generalize Ev.heap.size=Nh at*;have IZ:=zc M1;clear M1;have az:=EW.g2.cell 0 _ rfl;have az:=EW.g1.cell 0 _ rfl;have az:=EW.g2.cell 1 _ rfl;have az:=EW.g1.cell 1 _ rfl;go_wp2_with (refine EW.g0.zdP rfl rfl rfl (cs:=[.int .u64 n,.int .u64 0]) rfl zv rfl rfl (JU _ _) ?_);intro A4 aF oE;have Eu:=zi EW.bel oE ae;go_wp2;refine aF.result rfl rfl rfl zv rfl ⟨rfl,?_⟩;exact ah7
def a0m(h:List UInt64)(n:Nat)(rest:Value):Lb_:=h.map L++[.int .u64 n,.int .u64 0,rest,.int .i64 48]
def a0n(hl:h.length=8)(n:Nat)(r:Value):(a0m h n r).length=12:=by simp[a0m,hl]
def lG(hl:h.length=8)(n:Nat)(r:Value):((a0m h n r).drop 0).take 8=h.map L:=by simp[a0m,hl]
def U5(hl:h.length=8)(n:Nat)(r:Value):((a0m h n r).drop 8).take 2=[.int .u64 n,.int .u64 0]:=by simp[a0m,hl,zbn]
def bl(hl:h.length=8)(n:Nat)(r:Value):(a0m h n r)[10]? = some r:=by simp[a0m,hl,za6]
def FB(hl:h.length=8)(n:Nat)(r:Value):(a0m h n r)[11]? = some (.int .i64 48):=by simp[a0m,hl,za6]
def tE{h':List UInt64}(hl:h.length=8)(hl':h'.length=8)(n:Nat)(r:Value):(a0m h n r).take 0++h'.map L++(a0m h n r).drop (0+(h'.map L).length)=a0m h' n r:=by simp[a0m,hl,hl',zbn]
def tF(hl:h.length=8)(n m:Nat)(r:Value):(a0m h n r).take 8++.int .u64 m::.int .u64 0::(a0m h n r).drop 10=a0m h m r:=by simp[a0m,hl,zbn,List.take_append]
def n7(hl:h.length=8)(n:Nat)(r s:Value):(a0m h n r).set 10 s=a0m h n s:=by simp[a0m,hl,List.set_append_right]
def lH:(pgm.info? 261).map (·.zero)=some (some (.agg ((zg 128).map B).toArray)):=e0
def tG(b:La_)(h:b.length<=128):splice ((zg 128).map B) 0 (b.map B)=(YT 128 b).map B:=by unfold splice YT;rw[List.take_zero,List.nil_append,Nat.zero_add,zaa,zaD,<-zcb];congr 2;show zb0 _ (zah 128 (0:UInt8))=zah _ 0;rw[List.drop_replicate]
def lI(b:La_)(h:b.length<=128):(YT 128 b).length=128:=by simp[YT,zg];omega
def yi.only(h:yi w)(ho:Only c w w')(hc:2≠c/\4≠c):yi w':=by
 have ai:ze3 w' 2=ze3 w 2:=by unfold ze3;rw[ho.block _ hc.1]
 have aj:ze3 w' 4=ze3 w 4:=by unfold ze3;rw[ho.block _ hc.2]
 exact⟨by rw[ai];exact h.first.only ho hc.1,by rw[aj];exact h.rows.only ho hc.2⟩
def B9(ph:Nat)(h:List UInt64)(r:Value)(ao:OA)(n cap:Nat)(b:La_)(w:World)(hp:Blk w ph (a0m h 0 r) 239)(hh:h.length=8)(hn:b.length=n)(hn1:n<=128)(hl:zr w ao (b.map B))(hg:yi w)(hpf:2≠ph/\4≠ph):Ca_ 148 #[pa_ ph,.slice ao n cap,.int .i64 n,.bool true] w λe w'=>(∃v,e=.returned v)/\Blk w' ph (a0m (compress h (YT 128 b) (zae n) 0 true) n r) 239/\zJ ph w w':=by
 refine ajJ hp hh hn ?_;intro Ih PW Nl;refine ajJ hl hg hpf ?_;intro Ru M8 Rv;have Rw:=zc (And.intro hg.first.lt hg.rows.lt);have I9:=zc (zJ.refl ph w);have Rx:=zc (tG b ae);have PH:=zc (lI b ae);have Ic:=hp.lt;have Ry:=ha_ ((b.map B).length=Nat.min n 128) (by rw[zaa,hn];exact(Nat.min_eq_left hn1).symm);have I8:=ha_ (0+(b.map B).length<=((zg 128).map B).length) (by rw[zaa,zaa,ze];omega);clear hp hh hn hl hg hpf;go_enter func148,ntmps148;go_wp2_with (refine zf 261 ((zg 128).map B) _ rfl rfl lH rfl ?_);intro A4 aF Eu;have aB:=aF.lt;have Ih:=zc (Ih.below Eu Ih.lt);have Ru:=zc (Ru.below Eu);have M8:=zc (M8.below Eu);have I9:=zc (I9.trans (zJ.of_below Eu));have uX:=zc aF;clear Eu;generalize Rz:w.heap.size=MQ at*;have RA:=zc Rz;clear Rz;go_wp2_with (refine uX.zgm 0 (b.map B) rfl rfl rfl rfl underlying23 zm (λ_=>rfl) Ru Ry I8 (zj b) ?_);intro A4 aF oE;rw[Rx.o] at aF;have Ih:=zc (Ih.only oE ae);have M8:=zc (M8.only oE (by have:=Rw.o;have:=RA.o;omega));have I9:=zc (I9.other oE (by rw[RA.o];exact zab _));have uX:=zc aF;have uY:=zc (Blk.zea Ih 8 2 _ (U5 PW 0 r));go_wp2_with (refine wpList_load_mid rfl 146 (.tmp 15) rfl ph 8 rfl _ _ uY underlying146 rfl zv.2 ?_);go_wp2_with fail;refine(FA n _ ae).mono ?_;rintro e A4⟨rfl,Ey⟩;have aB:=uX.lt;have Ih:=zc (Ih.below Ey Ih.lt);have uX:=zc (uX.below Ey uX.lt);have M8:=zc (M8.below Ey);have I9:=zc (I9.trans (zJ.of_below Ey));clear Ey;go_wp2_with (refine Ih.zgf (o:=8) (cs:=[.int .u64 n,.int .u64 0]) rfl rfl rfl rfl zv rfl (by rw[a0n PW.o];omega) (JU _ _) ?_);intro A4 aF oE;rw[tF PW.o] at aF;have uX:=zc (uX.only oE ae);have M8:=zc (M8.only oE Rv);have I9:=zc (I9.trans (zJ.zd1 oE));have Ih:=zc aF;have PX:=ha_ ((h.map L).length=8) (by rw[zaa];exact PW);have RB:=l_ (YT 128 b) 128 PH;have RC:=ha_ (((compress h (YT 128 b) (zae n) 0 true).map L).length=8) (by rw[zaa];exact jJ _ _ _ _ _);have RD:=ha_ ((Value.agg #[Value.int .u64 (n:Int),Value.int .u64 0])=.agg #[L (zae n),L 0]) (by
  have:(zae n).toNat=n:=zaR ki;simp[L,this])
 go_wp2_with fail;refine zp [0,1,2,3,4,5,6,7,8,9,10,11,12,13,14] e0 e0 ?_;rintro A4 rfl;iterate 4 refine m1R ?_
 refine zB (Blk.zea Ih.drew 0 8 _ (lG PW n r)) Ih.drew.lt jP PX rfl rfl rfl rfl (λK hK=>?_);refine ali ?_;clear hK K;refine zB uX.drew.range uX.drew.lt nZ RB rfl rfl rfl rfl (λK hK=>?_);refine ali ?_;clear hK K;iterate 3 refine m1R ?_
 refine zB (Blk.zea Ih.drew 8 2 _ (U5 PW n r)) Ih.drew.lt zv rfl rfl rfl rfl rfl (λK hK=>?_);refine ali ?_;clear hK K;refine m1R ?_;refine Pm ?_;intro K hK;rw[RD.o];refine(n6 h (YT 128 b) (zae n) 0 _ PW PH (M8.below (Below.refl _ _).drew)).mono ?_;rintro e A4⟨rfl,ED⟩;have Ih:=zc (Ih.drew.below ED Ih.lt);have I9:=zc (I9.drew.trans (zJ.of_below ED));refine amM ?_;clear hK K ED;refine aiG ?_;intro K hK;refine Ih.zeC (o:=0) (cs:=(compress h (YT 128 b) (zae n) 0 true).map L) rfl rfl rfl jP RC (by rw[a0n PW.o];omega) (VD _) (λw7 hb7 ho7=>hK _ _ ?_);clear hK K;rw[tE PW.o (jJ _ _ _ _ _)] at hb7;have I9:=zc (I9.trans (zJ.zd1 ho7));have Ih:=zc hb7;clear hb7 ho7;refine aeS ?_;go_wp2;go_end0;exact⟨⟨_,rfl⟩,Ih,I9⟩
def Ca{base:Nat}{e:TypeId}{size:Nat}{v:Value}{xs:Lb_}(h:w.ownsRow base e size v n xs)(ho:Only c w w')(hc:c<base):w'.ownsRow base e size v n xs:=by refine⟨h.1,h.2.imp id ?_⟩;rintro⟨ie,oF,oH,aL,oG,oI,oJ⟩;exact⟨ie,oF,oH,aL,oG,by rw[ho.block ie (by omega)];exact oI,oJ⟩
def jc:(pgm.info? 5).map (λi=>(i.zero,i.size,i.bytes))=some (some (.int .u8 0),1,1):=e0
def JV:Row pgm 239 12:=⟨e0,e0⟩
def kB:(pgm.info? 23).map (·.size)=some 1:=e0
abbrev bA(ph:Nat)(ao:OA)(n cap:Nat)(us:Nat->Value):Act:={ tmps:=#[.pointer (some ⟨ph,0,none⟩),.slice ao n cap,us 2,us 3,us 4,us 5,us 6,us 7,us 8,us 9,us 10,us 11,us 12,us 13,us 14,us 15,us 16,us 17,us 18,us 19,us 20,us 21,us 22,us 23,us 24,us 25,us 26,us 27,us 28,us 29,us 30,us 31,us 32,us 33,us 34,us 35],defers:=[] }
def WR(ph:Nat)(h:List UInt64)(ao:OA)(n cap:Nat)(b:La_)(w:World)(x:Act)(wr:World):Prop :=
 ∃(us:Nat->Value)(ao':OA)(cap':Nat),x=bA ph ao n cap us/\n<=cap'/\Hid (Blk wr ph (a0m h 0 (.slice ao' n cap')) 239)/\Hid (zr wr ao' (b.map B))/\Hid (zJ ph w wr)
def WR.intro{ph:Nat}{ao:OA}{cap:Nat}{b:La_}{x:Act}{wr:World}(ao':OA)(cap':Nat)(hx:x=bA ph ao n cap (λi=>x.tmps.getD i undef))(hn:n<=cap')(h1:Blk wr ph (a0m h 0 (.slice ao' n cap')) 239)(h2:zr wr ao' (b.map B))(h3:zJ ph w wr):WR ph h ao n cap b w x wr:=⟨_,ao',cap',hx,hn,h1,h2,h3⟩
def Cb(ph:Nat)(h:List UInt64)(ao:OA)(n cap:Nat)(b:La_)(w:World)(hp:Blk w ph (a0m h 0 (.slice none 0 0)) 239)(hh:h.length=8)(hn:b.length=n)(hn1:n<=128)(hl:zr w ao (b.map B)):Ca_ 129 #[pa_ ph,.slice ao n cap] w λe w'=>(∃v,e=.returned v)/\∃ao' cap',n<=cap'/\Blk w' ph (a0m h 0 (.slice ao' n cap')) 239/\zr w' ao' (b.map B)/\zJ ph w w':=by
 refine aiP ?_;intro aS aO aT aU aV NK;have Ih:=zc hp;have PW:=zc hh;refine af6 ?_;intro Nl A0;have Ic:=hp.lt;clear hp hh hn hl aO aT aU aV;go_enter func129,ntmps129;go_wp2_with fail;refine zN 0 (WR ph h ao n cap b w) (λ_ _=>0) rfl ?_ ?_
 ·simp only[qb];have az:=Ih.cell 10 _ (bl PW 0 (.slice none 0 0));go_wp2_with (at_builtin;refine z8 rfl (.tmp 10) (.tmp 11) 23 rfl w.heap.size 5 aS (.int .u8 0) 1 underlying23 NK.1 NK.2.1 NK.2.2.1 NK.2.2.2 rfl _ 0 [] rfl (vm _ _ _ _) ao n cap (b.map B) rfl kj A0 (wG b) ew ae (zab _) ?_);intro aK A4 I4 oG;obtain⟨eT,iy,rfl,AV,_,aR⟩:=zz I4;have Et:Below w.heap.size w A4:=(Below.refl _ w).grown oG (zab _) (λk h=>by cases h);have Ih:=zc (Ih.below Et Ih.lt);have ER:=zc aR;have NO:=zc I4;have I9:=zc (zJ.of_below (b:=ph) Et);clear Et oG aR az;go_wp2_with (refine Ih.zeJ (v:=.slice eT n iy) (i:=10) rfl rfl rfl rfl kB rfl rfl (by rw[a0n PW.o];omega) ?_);intro A4 aF oE;rw[n7 PW.o] at aF;have NO:=zc (Ca NO oE Ic);have I9:=zc (I9.trans (zJ.zd1 oE));have Ih:=zc aF;go_wp2;exact WR.intro eT iy rfl AV Ih (zr.zef NO) I9
 ·rintro ef oU⟨NU,ao',cap',rfl,P4,Ih,A0,I9⟩;have az:=Ih.cell 10 _ (bl PW 0 (.slice ao' n cap'));go_wp2;rw[Exit.zdZ];refine ahH ?_;exact⟨⟨_,rfl⟩,ao',cap',P4,Ih,A0,I9⟩
def Lk(w:World)(hg:yi w):Ca_ 128 #[.int .i64 48,.slice none 0 0] w λe w'=>∃ph,e=.returned (.tuple #[pa_ ph,.int .i64 0])/\w.heap.size<=ph/\Blk w' ph (a0m Qg 0 (.slice none 0 0)) 239/\Below w.heap.size w w':=by have M8:=zc hg;clear hg;have ep:bits .xor .u64 16842752 0=16842752:=bd;have ep:bits .xor .u64 16842752 48=16842800:=bd;have ep:bits .xor .u64 7640891576956012808 16842800=7640891576939301176:=bd;go_enter func128,ntmps128;go_wp2_with (first|(refine M8.first.zdS rfl rfl rfl jP rfl ?_)|(refine zh 239 _ (a0m Ym 0 (.slice none 0 0)) _ rfl rfl rfl e0 ?_));refine anx ?_;intro w1 aF Eu Ih uX;clear Eu;generalize RP:w.heap.size=ph at*;have RQ:=zc RP;clear RP;have az:=λ(x:zL w1.drew)=>(Ih.drew.below x.later Ih.drew.lt).cell 0 (.int .u64 7640891576956012808) rfl;go_wp2_with fail;refine zp [0,1,2,3,4,5,6,7,8,9,10,11,12,13,14,15,16,17] e0 e0 ?_;rintro A4 rfl;refine mqR ?_;clear az;refine aeA ?_;intro K hK;refine Ih.drew.zd8 (v:=.int .u64 7640891576939301176) (i:=0) rfl rfl rfl zY rfl rfl (by rw[a0n rfl];omega) (λw3 hb3 ho3=>hK _ _ ?_);clear hK K;have hb3:Blk w3 ph (a0m Qg 0 (.slice none 0 0)) 239:=hb3;have uX:=zc (zi uX.drew ho3 (zab _));have Ih:=zc hb3;clear hb3 ho3;refine aeS ?_;go_wp2;go_ret2;exact⟨ph,rfl,Nat.le_of_eq RQ,Ih,by rw[RQ.o];exact uX⟩
def ziS:Lb_:=(jv 8).map L++[.int .u64 0,.int .u64 0,.slice none 0 0,.int .i64 0]
def dx:(pgm.info? 239).map (·.zero)=some (some (.agg ziS.toArray)):=e0
def Cc(h:List UInt64)(n:Nat)(ao:OA)(m c:Nat):∀v∈a0m h n (.slice ao m c),v.oneCell'=true:=by
 intro v hv;unfold a0m at hv;rcases List.mem_append.1 hv with hv|hv
 ·exact VD _ v hv
 ·simp at hv;rcases hv with rfl|rfl|rfl|rfl<;>rfl
def Ll(ph:Nat)(ao:OA)(n cap:Nat)(b:La_)(w:World)(hp:Blk w ph (a0m Qg 0 (.slice ao n cap)) 239)(hn:b.length=n)(hn1:n<=128)(hc:n<=cap)(hl:zr w ao (b.map B))(hg:yi w):Ca_ 130 #[.pointer (some ⟨ph,0,none⟩)] w λe w'=>∃a c,e=.returned (.slice a 48 c)/\48<=c/\zr w' a ((V3 b).map B)/\Below w.heap.size w w':=by
 refine aiP ?_;intro aS aO aT aU aV NK;have Ih:=zc hp;refine af6 ?_;intro Nl A0;have M8:=zc hg;have AI:=hg.first.lt;have NS:=hg.rows.lt;have EW:=ha_ (V3 b=(vP (compress Qg (YT 128 b) (zae n) 0 true)).take 48/\True) ⟨by rw[<-hn];rfl,trivial⟩;clear hp hn hl hg aO aT aU aV;have RR:=ha_ (Qg.length=8) rfl;go_enter func130,ntmps130;go_wp2_with (first|(refine Ih.zdS rfl rfl rfl JV (a0n RR _ _) ?_)|(refine zf 239 ziS _ rfl rfl dx rfl ?_));intro A4 aF Eu;have M8:=zc (M8.below Eu);have A3:=zc aF;have uX:=zc Eu;clear Eu;generalize RS:w.heap.size=RT at*;have RU:=zc RS;clear RS;go_wp2_with (refine A3.zdP rfl rfl rfl (cs:=a0m Qg 0 (.slice ao n cap)) rfl JV rfl (a0n RR _ _) (Cc _ _ _ _ _) ?_);intro A4 aF oE;have M8:=zc (M8.only oE ae);have uX:=zc (zi uX oE (zab _));have A0:=zc (A0.below (w':=A4) (by rw[RU.o];exact uX));have A3:=zc aF;have az:=A3.cell 10 _ (bl RR 0 (.slice ao n cap));go_wp2_with fail;refine(B9 RT Qg (.slice ao n cap) ao n cap b _ A3 RR Nl hn1 A0 M8 ⟨ae,ae⟩).mono ?_;rintro e Ev⟨⟨aK,rfl⟩,aF,oE⟩;have uX:=zc (wK uX oE (zab _) (zbQ A3.lt));have A3:=zc aF;have I7:=zc (jJ Qg (YT 128 b) (zae n) 0 true);generalize compress Qg (YT 128 b) (zae n) 0 true=eg at*;clear az;have uY:=zc (Blk.zea A3 0 8 _ (lG I7 n (.slice ao n cap)));have PX:=ha_ ((eg.map L).length=8) (by rw[zaa];exact I7);go_wp2_with (at_make;refine wpList_make_own _ rfl _ _ 23 rfl Ev.heap.size 5 aS (.int .u8 0) 1 underlying23 NK.1 NK.2.1 NK.2.2.1 _ _ _ 64 rfl rfl ?m1 ?m2 ?m3 (zab _) ?_);case m1=>simp
 case m2=>rw[NK.2.2.2];omega
 case m3=>unfold maxLen;omega
 intro A4 RV RW;have Eu:Below Ev.heap.size Ev A4:=(Below.refl Ev.heap.size Ev).grown RW (zab _) (λk h=>by cases h);have NO:=zc RV;have RX:RT<Ev.heap.size:=A3.lt;have EB:=zc Eu;have uY:=zc (Blk.zea (A3.below Eu A3.lt) 0 8 _ (lG I7 n (.slice ao n cap)));clear RV RW Eu;go_wp2_with (refine wpList_load_mid rfl 237 (.tmp 20) rfl RT 0 rfl _ _ uY underlying237 rfl (by rw[PX.o];exact jP.2) ?_);go_wp2;go_loopw [4,22] (λv c wr=>∃i:Nat,i<=8/\c=.int .i64 i/\Hid (wr.ownsRow Ev.heap.size 5 1 v (8*i) ((vP (eg.take i)).map B))/\Hid (Below Ev.heap.size Ev wr)) (λ_ c _=>8-(intOf c).toNat);case atStart=>exact⟨0,ae,rfl,NO,EB⟩
 case round =>
  clear NO EB;obtain⟨i,aO,rfl,NO,EB⟩:=hrel;by_cases aB:i<8
  ·have P7:=ha_ ((vP (eg.take (i+1))).map B=(vP (eg.take i)).map B++(zw (at64 eg i)).map B/\True) ⟨by
    rw[List.take_add_one,yn (l:=eg) (by rw[I7.o];exact aB)];simp only[Option.toList];rw[V2,zaD],trivial⟩
   have Nx:=λw=>qn (P:=pgm) w 237 92 8 (eg.map L).toArray .i64 i (L (at64 eg i)) underlying237 e0 zY (by simpa using yR (yn (l:=eg) (i:=i) (by rw[I7.o];exact aB))) aB;have PH:=zc (zy (at64 eg i));generalize at64 eg i=ef at*;go_wp2_with fail;refine(qj ef _).mono ?_;refine ajW NO EB ?_;intro A4 M6 NO EB;clear M6 Nx;go_wp2_with (refine aqF ?_);intro IX aF ED;have IM:=zc ED;have Nl:=zc aF;clear ED;go_wp2_with (refine Nl.zdP rfl rfl rfl (cs:=(zw ef).map B) rfl qI ev (by rw[zaa];exact PH) (zj _) ?_);intro IX aF oE;have Eu:=zi IM oE (zab _);have NO:=zc (zo NO Eu);have EB:=zc (EB.trans (Eu.mono EB.size));have Nl:=zc aF;have RB:=l_ (zw ef) 8 PH;clear Eu;go_wp2_with (at_builtin;refine z8 rfl (.tmp 27) (.tmp 28) 23 rfl Ev.heap.size 5 aS (.int .u8 0) 1 underlying23 NK.1 NK.2.1 NK.2.2.1 NK.2.2.2 rfl _ _ _ rfl NO (some ⟨A4.heap.size,0,none⟩) 8 8 ((zw ef).map B) rfl RB Nl.lies (wG _) ew ae EB.size ?_);intro aK A4 RY oG;rw[<-P7.1] at RY;have IM:=zc (zU EB NO oG (zab _) EB.size);have RZ:=ha_ (A4.ownsRow Ev.heap.size 5 1 aK (8*(i+1)) ((vP (eg.take (i+1))).map B)) RY;clear RY oG;go_wp2;go_roundw;case rel=>exact⟨i+1,ae,hM,RZ,IM⟩
   case measure=>simp[intOf];omega
  ·obtain rfl:i=8:=by omega
   rw[zai (by rw[I7.o];exact zab _)] at NO;obtain⟨S0,S1,rfl,S2,_,S3⟩:=zz NO;have S4:48<=S1:=ae;have RD:=zc S3;have az:=(A3.below EB A3.lt).cell 11 _ (FB I7 n (.slice ao n cap));clear S3;go_wp2;go_ret;refine⟨S0,S1,rfl,S4,?_,?_⟩
   ·rw[EW.1,zbW];exact RD.take 48
   ·rw[RU.o];exact uX.trans (EB.mono (zbQ RX))


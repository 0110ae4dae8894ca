/- Laws. -/
import Derived.Test.YtkochfajaaiekaaGreatDoorY3
set_option linter.all false
set_option maxHeartbeats 16000000
set_option maxRecDepth 100000
open List renaming drop_append->zbn,drop_eq_nil_of_le->zak,length_drop->zan,length_map->zaa,length_take->zam,mem_of_getElem?->zad,mem_of_mem_drop->zcZ,mem_of_mem_take->zc0,take_add_one->zbi,take_of_length_le->zai
open Nat renaming le_refl->zab,lt_succ_self->zcQ,sub_self->zdz,zero_add->zbt
open UInt64 renaming ofNat->zae
namespace Go.Proofs.YtkochfajaaiekaaGreatDoor
open Go.Proofs.Tryz
open Go.Proofs.Tryz renaming prog->pgm
variable{w:World}{b g n c size:Nat}{e:TypeId}{xs:Lb_}{v:Value}
section
open RowKit
attribute [local irreducible] zA zG zH zE
def Ku:(pgm.info? 204).map (λi=>(i.zero,i.size,i.bytes))=some (some (.agg ((zg 4).map B).toArray),4,4):=e0
def Qz:(pgm.info? 144).map (λi=>(i.zero,i.size,i.bytes))=some (some (.agg ((zg 16).map B).toArray),16,16):=e0
def du:(pgm.info? 204).map (·.size)=some 4:=e0
def dv:(pgm.info? 209).map (·.size)=some 1:=e0
def Wa:(pgm.info? 204).map (λi=>(i.zero,i.size))=some (some (.agg ((zg 4).map B).toArray),4):=e0
def zV:(pgm.info? 144).map (λi=>(i.zero,i.size))=some (some (.agg ((zg 16).map B).toArray),16):=e0
def Y3{w':World}{base:Nat}(h:w.ownsRow base e size (.slice (some ⟨g,0,none⟩) n c) n xs)(ho:Only b w w')(hne:g≠b):w'.ownsRow base e size (.slice (some ⟨g,0,none⟩) n c) n xs:=by refine⟨h.1,h.2.imp id ?_⟩;rintro⟨ie,oF,oH,aL,oG,oI,oJ⟩;cases aL;exact⟨g,c,oH,rfl,oG,by rw[ho.block g hne];exact oI,oJ⟩
def VB{base:Nat}(h:w.ownsRow base e size (.slice (some ⟨g,0,none⟩) n c) n xs):n<=c/\c<=maxLen:=by
 rcases h.2 with⟨hv,_⟩|⟨g',cap,cur,hv,hb,hg,h1,h2,_⟩
 ·cases hv
 ·cases hv;exact⟨h1,h2⟩
def own_ne{base:Nat}{ty:TypeId}{vs:Lb_}(h:w.ownsRow base e size v n xs)(hb:Blk w b vs ty)(hne:e≠ty):∀k,v.ownBlock=some k->k≠b:=by
 intro k aQ Nr;subst Nr;rcases h.2 with⟨rfl,_⟩|⟨g',cap,cur,rfl,_,hg,_⟩
 ·simp[Value.ownBlock] at aQ
 ·simp[Value.ownBlock] at aQ;subst aQ;unfold Blk at hb;rw[hb] at hg;simp at hg;exact hne hg.2.symm
def tv{base base' n' size':Nat}{v':Value}{e':TypeId}{xs':Lb_}(h:w.ownsRow base e size v n xs)(h':w.ownsRow base' e' size' v' n' xs')(hne:e≠e'):∀k,v.ownBlock=some k->v'.ownBlock≠some k:=by
 intro k aQ Ef;rcases h.2 with⟨rfl,_⟩|⟨g,cap,cur,rfl,_,hg,_⟩
 ·simp[Value.ownBlock] at aQ
 rcases h'.2 with⟨rfl,_⟩|⟨g',cap',cur',rfl,_,hg',_⟩
 ·simp[Value.ownBlock] at Ef
 simp[Value.ownBlock] at aQ Ef;subst aQ;subst Ef;rw[hg] at hg';simp at hg';exact hne hg'.2
def nT(n:Nat)(long:Bool)(k:La_):∀x∈expand n long k,x.length=16:=by intro x aH;simp only[expand,List.mem_map,List.mem_range] at aH;obtain⟨aS,aO,rfl⟩:=aH;rw[vw 4 _ (λk' hk=>Ki n long k k' (zcZ (zc0 hk))),zam,zan,WC];omega
def flat(ws:List (La_)):Lb_:=ws.flatten.map B
def QX(ws:List (La_))(x:La_):flat (ws++[x])=flat ws++x.map B:=by simp[flat]
def tz(q:Nat)(ao:OA)(len cap:Nat)(w:World)(h:len≠32/\len≠16/\len≠24):C_e 104 #[pa_ q,.slice ao len cap] w (.tuple #[.pointer none,.int .i64 2]):=by go_enter func104,ntmps104;go_wp2_with fail;refine zN 0 (λ_ _=>False) (λ_ _=>0) rfl ?_ (λ_ _ h=>h.elim);simp only[qb];go_wp2_with fail;refine(Fp len _ ae).mono ?_;rintro ai A4⟨rfl,rfl⟩;go_wp2;rw[Exit.zdZ];go_ret2;exact aeU
abbrev nU(q:Nat)(ao:OA)(len cap n:Nat)(long:Bool)(v:Value)(pw:UInt8)(us:Nat->Value):Act:={ tmps:=#[.pointer (some ⟨q,0,none⟩),.slice ao len cap,us 2,us 3,us 4,us 5,.int .i64 n,.bool long,us 8,v,us 10,B pw,us 12,us 13,us 14,us 15,us 16,us 17,us 18,us 19,us 20,us 21,us 22,us 23,us 24,us 25,us 26,us 27,us 28,us 29,us 30,us 31,us 32,us 33,us 34,us 35,us 36,us 37,us 38,us 39,us 40,us 41,us 42,us 43,us 44,us 45,us 46,us 47,us 48,us 49,us 50,us 51,us 52,us 53,us 54,us 55,us 56,us 57,us 58,us 59,us 60,us 61,us 62,us 63,us 64,us 65,us 66,us 67,us 68,us 69,us 70,us 71,us 72,us 73,us 74,us 75,us 76,us 77,us 78,us 79,us 80,us 81,us 82,us 83,us 84,us 85,us 86,us 87,us 88,us 89,us 90,us 91,us 92,us 93,us 94,us 95,us 96,us 97,us 98,us 99,us 100,us 101,us 102,us 103,us 104,us 105,us 106,us 107,us 108,us 109,us 110,us 111,us 112,us 113,us 114,us 115,us 116,us 117,us 118,us 119,us 120,us 121,us 122,us 123,us 124,us 125,us 126,us 127,us 128,us 129,us 130,us 131,us 132,us 133],defers:=[] }
def nV(q p:Nat)(ao:OA)(len cap:Nat)(bs:La_)(n:Nat)(long:Bool)(w:World)(x:Act)(wr:World):Prop :=
 ∃(us:Nat->Value)(m:Nat)(v:Value)(pw:UInt8)(ws:List (La_)),x=nU q ao len cap n long v pw us/\n<=m/\m<4*(n+7)/\Hid (XP n long bs (m-n)=(ws,pw))/\Hid (wr.ownsRow w.heap.size 204 4 v m (flat ws))/\Hid (Below w.heap.size w wr)
def nV.intro{q p:Nat}{ao:OA}{len cap:Nat}{bs:La_}{long:Bool}{x:Act}{wr:World}(m:Nat)(v:Value)(pw:UInt8)(ws:List (La_))(hx:x=nU q ao len cap n long v pw (λi=>x.tmps.getD i undef))(h1:n<=m)(h2:m<4*(n+7))(h3:XP n long bs (m-n)=(ws,pw))(h4:wr.ownsRow w.heap.size 204 4 v m (flat ws))(h5:Below w.heap.size w wr):nV q p ao len cap bs n long w x wr :=
 ⟨_,m,v,pw,ws,hx,h1,h2,h3,h4,h5⟩
def K2(q p:Nat)(ao:OA)(len cap:Nat)(bs:La_)(n:Nat)(long:Bool)(w:World)(ht:Tab w q p)(hlen:bs.length=len)(hl:zr w ao (bs.map B))(hn:4<=n/\n<=8)(hnl:len=4*n)(hsh:∀w,Ca_ 118 #[.int .i64 len] w λe w'=>e=.returned (.tuple #[.int .i64 n,.bool long,.int .i64 0])/\w=w'):Ca_ 104 #[.pointer (some ⟨q,0,none⟩),.slice ao len cap] w λe w'=>∃kp kb zed zeG,e=.returned (.tuple #[.pointer (some ⟨kp,0,none⟩),.int .i64 0])/\jk w' kp q p (expand n long bs) kb zed (n+7) zeG/\(w.heap.size<=kp/\w.heap.size<=kb)/\Below w.heap.size w w':=by
 obtain⟨aS,aO,aT,aU,aV⟩:=info_parts Ku;refine aeW ?_;intro NK;refine ajJ ht hlen hl ?_;intro A3 A2 A0;have NL:=zc hsh;have NM:=zc hnl;have aR:len<=32:=ae;obtain⟨aD,EO⟩:=hn;clear ht hlen hl hsh aO aT aU aV hnl;go_enter func104,ntmps104;go_wp2_with fail;refine zN 0 (nV q p ao len cap bs n long w) (λx _=>4*(n+7)-(match x.tmps.getD 9 undef with|.slice _ m _=>m|_=>0)) rfl ?_ ?_
 ·simp only[qb];go_wp2_with fail;refine(NL _).mono ?_;rintro e A4⟨rfl,rfl⟩;go_wp2_with (at_make;refine wpList_make_own _ rfl _ _ 203 rfl w.heap.size 204 aS (.agg ((zg 4).map B).toArray) 4 underlying203 NK.1 NK.2.1 NK.2.2.1 _ _ _ (4*(n+7)) rfl rfl ?m1 ?m2 ?m3 (zab _) ?_);case m1=>simp;omega
  case m2=>rw[NK.2.2.2];omega
  case m3=>unfold maxLen;omega
  intro A4 I4 NN;have NO:=zc I4;have EC:=zc ((Below.refl w.heap.size w).grown NN (zab _) (λk h=>by cases h));clear NN;go_wp2;go_loopw [9,33] (λv c wr=>∃i:Nat,i<=n/\c=.int .i64 i/\wr.ownsRow w.heap.size 204 4 v i (flat ((wt n bs).take i))/\Below w.heap.size w wr) (λ_ c _=>n-(intOf c).toNat);case atStart=>exact⟨0,Nat.zero_le _,rfl,NO,EC⟩
  case round =>
   clear NO EC;obtain⟨i,NP,rfl,NR,sy⟩:=hrel;by_cases aB:i<n
   ·have NO:=zc NR;have EC:=zc sy;go_wp2_with fail;refine(vt ao len cap (4*i) bs _ A2 ae ae (A0.below EC)).mono ?_;refine ajW NO EC ?_;intro Ev Et NO EC;clear Et;go_wp2_with fail;refine(Xw _ _).mono ?_;refine ajW NO EC ?_;intro IX Ey NO EC;clear Ey;have EZ:=zc (yX (xv bs (4*i)));have NQ:=ha_ (flat ((wt n bs).take (i+1))=flat ((wt n bs).take i)++(zeb (xv bs (4*i))).map B) (by
     rw[<-QX];congr 1;rw[zbi];simp[wt,aB])
    generalize zeb (xv bs (4*i))=x at*;go_wp2_with (refine qL 203 204 4 1 _ [x.map B] rfl rfl rfl underlying203 Wa rfl ae rfl ae ae (by intro v aL;simp at aL;subst aL;rw[zaa];exact EZ) ?_);intro MF aF Eu;try rw[show([x.map B]:List (Lb_)).flatten=x.map B by simp] at aF
    have uX:=zc aF;have NO:=zc (zo NO Eu);have EC:=zc (EC.trans (Eu.mono EC.size));clear Eu;go_wp2_with (at_builtin;refine wpList_append_own _ rfl (.tmp 36) (.tmp 42) 203 rfl w.heap.size 204 aS (.agg ((zg 4).map B).toArray) 4 4 underlying203 NK.1 NK.2.1 NK.2.2.1 NK.2.2.2 rfl bd _ _ _ rfl NO ⟨IX.heap.size,0,none⟩ 1 1 (x.map B) rfl ?c0 uX.lies.news (zj x) ?c3 ?c4 EC.size ?_);case c0=>rw[zaa,EZ.o]
    case c3=>unfold maxLen;omega
    case c4=>omega
    intro aK Na I4 NS _;rw[<-NQ.o] at I4;have M6:=zU EC NO NS (zab _) EC.size;have NT:=zc I4;clear NS;go_wp2;go_roundw;case rel=>exact⟨i+1,ae,hM,NT,M6⟩
    case measure=>simp[intOf];omega
   ·obtain rfl:i=n:=by omega
    rw[zai (by simp[wt])] at NR;have NO:=zc NR;have EC:=zc sy;go_wp2;exact nV.intro i _ 1 _ rfl ae ae (by rw[zdz];rfl) NO EC
 ·rintro x wr⟨NU,m,v,NV,NW,rfl,NX,eh,EM,I9,EB⟩;have NY:NW.length=m:=by have:=Xk n long bs (m-n);rw[EM.o] at this;simp only at this;omega
  have NZ:∀y∈NW,y.length=4:=by have:=KL n long bs (m-n);rw[EM.o] at this;exact this
  obtain⟨ie,O1,rfl,O2,O3⟩:=I9.form ae;have O4:y7 4 wr (some ⟨ie,0,none⟩) NW:=⟨NZ,zr.zef I9⟩
  obtain⟨ax,oC,ai,_,eI⟩:=O4.range ae (jI (ks:=NW) (i:=m-1) ae);cases ai;rw[zbt] at eI;have uY:=zc eI;have O7:=zc O4;have ER:=l_ (key NW (m-1)) 4 (NZ _ (zad (jI ae)));have Oc:=zc NY;have Od:=zc NZ;clear eI O4 NY NZ;go_wp2_with (first|(refine wpList_load_mid rfl 204 (.tmp 49) rfl ie ((m-1)*4) rfl _ _ uY underlying204 rfl (by rw[ER.o];exact yS.2) ?_)|(refine zf 204 ((zg 4).map B) _ rfl rfl wj rfl ?_));intro Ev Ew Et;have I9:=zc (zo I9 Et);have EB:=zc (EB.trans (Et.mono EB.size));have Oe:=EB.size;have Of:=Ew.lt;clear Et;generalize Og:wr.heap.size=Oh at*;go_wp2_with (refine Ew.zdP rfl rfl rfl rfl yS hH ER (zj _) ?_);intro IX aF oE;have I9:=zc (Y3 I9 oE ae);have EB:=zc (zi EB oE ae);have IM:=zc aF;go_upto_block 2 with fail
  go_cut [11] (λs11 wx=>s11=B (if m%n=0 then dbl NV else NV)/\Hid (Blk wx Oh ((turned n long m (key NW (m-1)) NV).map B) 204)/\Hid (Below w.heap.size w wx)/\Hid (wx.ownsRow w.heap.size 204 4 (.slice (some ⟨ie,0,none⟩) m O1) m (flat NW)));case first =>
   generalize aH:key NW (m-1)=x at*;have Oi:=zc aH;clear aH;have aH:x.length=4:=by have:=ER.o;rwa [zaa] at this
   obtain⟨x0,x1,x2,x3,rfl⟩:∃x0 x1 x2 x3,x=[x0,x1,x2,x3]:=by
    match x,aH with
    | [a,b,c,d],_=>exact⟨a,b,c,d,rfl⟩
   clear aH;have Oj:=zc (A3.below EB (zab _));by_cases ag:m%n=0
   ·have ah:((m:Int)%(n:Int)==0)=true:=by rw[beq_iff_eq];omega
    have Ok:=ha_ (turned n long m [x0,x1,x2,x3] NV=(zgx [x1,x2,x3,x0]).set 0 (yj (at8 (zgx [x1,x2,x3,x0]) 0) NV)) (by unfold turned;rw[if_pos ag];rfl);have Ol:=ha_ ((if m%n=0 then dbl NV else NV)=dbl NV) (by rw[if_pos ag]);have c0:=IM.cell 0 _ rfl;have iy:=IM.cell 1 _ rfl;have A5:=IM.cell 2 _ rfl;have c3:=IM.cell 3 _ rfl;clear ag;go_wp2_with fail;refine(nO q p [x1,x2,x3,x0] _ Oj rfl).mono ?_;refine ajW I9 EB ?_;intro MF Eu I9 EB;have IM:=zc (IM.below Eu IM.lt);clear Eu c0 iy A5 c3;have Om:=zc (Z0 [x1,x2,x3,x0]);generalize zgx [x1,x2,x3,x0]=y at*;go_wp2_with (refine IM.zdP rfl rfl rfl rfl yS ER hP (zj _) ?_);intro Na Ex Oo;have I9:=zc (Y3 I9 Oo ae);have EB:=zc (zi EB Oo ae);have IM:=zc Ex;have c0:=IM.cell 0 _ (zX (a01 (b:=y) (i:=0) (by rw[Om.o];omega)));have eP:=IM.free 0;go_wp2_with fail;refine(Vx NV _).mono ?_;rintro e Nf⟨rfl,rfl⟩;have On:=IM.set 0 (B (yj (at8 y 0) NV));rw[yD,<-Ok.o] at On;have oE:Only Oh _ _:=Only.setCell Na ⟨Oh,0,none⟩ (B (yj (at8 y 0) NV));have I9:=zc (Y3 I9 oE ae);have EB:=zc (zi EB oE ae);have IM:=zc On;clear On oE c0 eP;exact agu
   ·have ah:((m:Int)%(n:Int)==0)=false:=AA;have Ol:=ha_ ((if m%n=0 then dbl NV else NV)=NV) (by rw[if_neg ag]);by_cases h1:long=true/\m%n=4
    ·have Oq:((m:Int)%(n:Int)==4)=true:=by rw[beq_iff_eq];omega
     have Ok:=ha_ (turned n long m [x0,x1,x2,x3] NV=zgx [x0,x1,x2,x3]) (by unfold turned;rw[if_neg ag,if_pos h1]);obtain rfl:=h1.1;clear ag h1;go_wp2_with (refine IM.zdS rfl rfl rfl yS ER ?_);refine(nO q p [x0,x1,x2,x3] _ Oj rfl).mono ?_;refine ajW I9 EB ?_;intro MF Eu I9 EB;have IM:=zc (IM.below Eu IM.lt);clear Eu;have Om:=zc (Z0 [x0,x1,x2,x3]);generalize zgx [x0,x1,x2,x3]=y at*;go_wp2_with (refine IM.zdP rfl rfl rfl rfl yS ER hP (zj _) ?_);intro Na Ex Oo;have I9:=zc (Y3 I9 Oo ae);have EB:=zc (zi EB Oo ae);rw[<-Ok.o] at Ex;have IM:=zc Ex;exact agu
    ·have Ok:=ha_ (turned n long m [x0,x1,x2,x3] NV=[x0,x1,x2,x3]) (by unfold turned;rw[if_neg ag,if_neg h1]);have IM:=ha_ (Blk IX Oh ((turned n long m [x0,x1,x2,x3] NV).map B) 204) (by rw[Ok.o];exact IM);cases long with
     | false =>
      clear ag h1;exact agu
     | true =>
      have Oq:((m:Int)%(n:Int)==4)=false:=by rw[beq_eq_false_iff_ne];simp at h1;omega
      clear ag h1;exact agu
  case rest =>
   obtain⟨rfl,IM,EB,I9⟩:=hcut;have Ot:=db n long m (key NW (m-1)) NV (by have:=ER.o;rwa [zaa] at this);have Ou:=ha_ (XP n long bs (m+1-n)=(NW++[a08 (key NW (m-n)) (turned n long m (key NW (m-1)) NV)],if m%n=0 then dbl NV else NV)) (by
    rw[show m+1-n=(m-n)+1 by omega,XP,EM.o,WL];simp only[Oc.o])
   generalize turned n long m (key NW (m-1)) NV=Ov at*;generalize (if m%n=0 then dbl NV else NV)=Ow at*;have Ox:=zc Ot;have Oy:=l_ Ov 4 Ot;clear Ot;have oV:(m:Int)-n=((m-n:Nat):Int):=ae;have O4:y7 4 wc (some ⟨ie,0,none⟩) NW:=⟨Od,zr.zef I9⟩
   obtain⟨ax,oC,ai,Oz,eI⟩:=O4.range ae (jI (ks:=NW) (i:=m-n) (by have:=Oc.o;omega));cases ai;rw[zbt] at eI;have OB:=zc eI;have OC:=zc Oz;have No:=ha_ ((key NW (m-n)).length=4) (Od _ (zad (jI (by have:=Oc.o;omega))));have OD:=l_ (key NW (m-n)) 4 No;generalize key NW (m-n)=x at*;clear eI Oz O4;go_wp2_with fail;refine zp [0,1,2,3,4,5,6,7,8,9,10,11,12] e0 e0 ?_;rintro MF rfl;iterate 7 refine m1R ?_
   refine zB (off:=(m-n)*4) OB OC yS OD rfl rfl rfl rfl (λK hK=>?_);refine ali ?_;clear hK K;refine zB IM.drew.range IM.drew.lt yS Oy rfl rfl rfl rfl (λK hK=>?_);refine ali ?_;clear hK K;refine Pm ?_;intro K hK;refine(Fu x Ov _ No Ox).mono ?_;rintro e Na⟨rfl,M6⟩;have I9:=zc (zo (w:=wc.drew) I9 M6);have EB:=zc (EB.drew.trans (M6.mono EB.size));have Nw:=zc (Jk x Ov);generalize a08 x Ov=ep at*;go_simp;refine hK _ _ M6 ?_;clear hK K M6;refine Sm ?_;intro K hK;refine qD 203 204 4 1 _ [ep.map B] rfl rfl underlying203 Wa rfl ae rfl ae ae (by intro v aL;simp at aL;subst aL;rw[zaa];exact Nw) ?_;intro Nf MG ED;refine hK _ _ ED ?_;clear hK K;try rw[show([ep.map B]:List (Lb_)).flatten=ep.map B by simp] at MG
   have I9:=zc (zo I9 ED);have EB:=zc (EB.trans (ED.mono EB.size));have OE:=zc MG;clear ED;go_simp;obtain⟨aS,aO,aT,aU,aV⟩:=info_parts Ku;refine aeA ?_;intro K hK;refine wp_append_own _ (.tmp 87) (.tmp 97) 203 rfl w.heap.size 204 aS (.agg ((zg 4).map B).toArray) 4 4 underlying203 aO aT aU aV rfl bd _ _ _ rfl I9 ⟨Na.heap.size,0,none⟩ 1 1 (ep.map B) rfl hR OE.lies.news (zj ep) ew ae EB.size ?_;intro OF OG OH MC _;refine hK _ _ ?_;clear hK K;rw[<-QX] at OH;have Eu:=zU EB I9 MC (zab _) EB.size;have I9:=zc OH;have EB:=zc Eu;clear OH Eu MC aO aT aU aV;go_simp;refine afE ?_;obtain⟨oL,OI,rfl,OJ,OK⟩:=I9.form ae;by_cases OL:m+1<4*(n+7)
   ·go_wp2_with fail;refine wp_goto ⟨rfl,nV.intro (m+1) _ Ow (NW++[ep]) rfl ae OL Ou I9 EB,?_⟩;show 4*(n+7)-(m+1)<4*(n+7)-m;omega
   ·obtain rfl:m=4*(n+7)-1:=ae;have OM:=ha_ (YR n long bs=NW++[ep]) (by unfold YR;rw[show 4*(n+7)-n=4*(n+7)-1+1-n by omega,Ou.o]);have ON:=ha_ ((NW++[ep]).length=4*(n+7)) (by rw[List.length_append,Oc.o];simp;omega);have OO:=ha_ (∀y∈NW++[ep],y.length=4) (by rw[<-OM.o];exact Ki n long bs);generalize NW++[ep]=OP at*;clear oV EM IM;go_wp2_with (refine zh 211 _ [.pointer (some ⟨q,0,none⟩),.slice none 0 0] _ rfl rfl rfl rfl ?_);intro w8 hb8 MH;have I9:=zc (zo I9 MH);have EB:=zc (EB.trans (MH.mono EB.size));have OQ:oL<OG.heap.size:=OK;have Nr:w.heap.size<=OG.heap.size:=Nat.le_of_lt (Nat.lt_of_le_of_lt OJ OK);generalize OG.heap.size=kb at*;have uX:=zc hb8;clear MH;go_wp2;have OR:=zc (vm w8 w.heap.size 144 16);go_loopw [14,112] (λ_ c wr=>∃(i:Nat)(v:Value),i<=n+7/\c=.int .i64 i/\Hid (wr.ownsRow (kb+1) 144 16 v i (flat ((expand n long bs).take i)))/\Hid (Blk wr kb [.pointer (some ⟨q,0,none⟩),v] 211)/\Hid (wr.ownsRow w.heap.size 204 4 (.slice (some ⟨oL,0,none⟩) (4*(n+7)-1+1) OI) (4*(n+7)-1+1) (flat OP))/\Hid (Below w.heap.size w wr)) (λ_ c _=>n+7-(intOf c).toNat);case atStart=>exact⟨0,.slice none 0 0,ae,rfl,vm _ _ _ _,uX,I9,EB⟩
    case round =>
     clear I9 EB uX;obtain⟨i,v,NP,rfl,OS,OT,I9,EB⟩:=hrel;by_cases aB:i<n+7
     ·have N0:∀w',(Instr.slice 203 (.slice (some ⟨oL,0,none⟩) (4*(n+7)-1+1) OI) (some (.int .i64 (4*(i:Int)))) (some (.int .i64 (4*(i:Int)+4))) none).run pgm w'=.ok (.slice (Qw (some ⟨oL,0,none⟩) OI (4*i) 4) 4 (OI-4*i)) w':=by
       intro w';have:=nQ (P:=pgm) w' 203 204 4 underlying203 du (some ⟨oL,0,none⟩) (4*(n+7)-1+1) OI (4*i) (4*i+4) (4*(i:Int)) (4*(i:Int)+4) ae ae ae (by have:=(VB I9).1;omega)
       rwa [show 4*i+4-4*i=4 by omega] at this
      have az:=λ(x:zO (Below (kb+1)) wr.drew)=>(OT.drew.below x.rel (zcQ kb)).cell 1 _ rfl;have O4:y7 4 wr (some ⟨oL,0,none⟩) OP:=⟨OO,zr.zef I9⟩
      have OU:=zc (O4.cut (cap:=OI) (by rw[ON.o];have:=(VB I9).1;omega) (4*i) 4);have OV:=ha_ ((expand n long bs).take (i+1)=(expand n long bs).take i++[((OP.drop (4*i)).take 4).flatten]) (by
       rw[zbi,<-OM.o];congr 1;simp[expand,aB])
      have Nl:=ha_ (((OP.drop (4*i)).take 4).length=4) (by rw[zam,zan,ON.o];omega);have OW:=ha_ (((OP.drop (4*i)).take 4).flatten.length=16) (by
       rw[vw 4 _ (λk hk=>OO.o k (zcZ (zc0 hk))),Nl.o])
      generalize (OP.drop (4*i)).take 4=x at*;clear O4;go_wp2_with fail;refine yg (Below (kb+1)) [17] [(0,true),(1,true),(2,true),(3,true),(4,true),(5,true),(6,true),(7,true),(8,true),(9,true),(10,true),(11,true),(12,false),(13,false),(14,false),(15,true),(16,true),(17,false)] (λa=>Below.refl _ a) (λ_ _ _ h1 h2=>h1.trans h2) e0 e0 ?_;rintro MF rfl;refine mqK ?_;refine al8 ?_;intro K hK;refine(B5 _ _ x _ Nl (OU.below (Below.refl _ wr).drew)).mono ?_;rintro e Na⟨rfl,M6⟩;have Ng:=OT.lt;have OS:=zc (zo (w:=wr.drew) OS M6);have I9:=zc (zo (w:=wr.drew) I9 M6);have OT:=zc (OT.drew.below M6 Ng);have EB:=zc (EB.drew.trans (M6.mono EB.size));generalize x.flatten=y at*;go_simp;refine hK _ _ (λ_=>M6.mono Ng) ?_;clear hK K M6 az;refine aeR ?_;intro K hK;refine qD 209 144 16 1 _ [y.map B] rfl rfl underlying209 zV rfl ae rfl ae ae (by intro v aL;simp at aL;subst aL;rw[zaa];exact OW) ?_;intro Nf MG ED;have Ng:=OT.lt;refine hK _ _ (λ_=>ED.mono Ng) ?_;clear hK K;try rw[show([y.map B]:List (Lb_)).flatten=y.map B by simp] at MG
      have OS:=zc (zo OS ED);have I9:=zc (zo I9 ED);have OT:=zc (OT.below ED OT.lt);have EB:=zc (EB.trans (ED.mono EB.size));have OE:=zc MG;clear ED;go_simp;obtain⟨aS,aO,aT,aU,aV⟩:=info_parts Qz;refine aeR ?_;intro K hK;refine wp_append_own _ (.tmp 119) (.tmp 128) 209 rfl (kb+1) 144 aS (.agg ((zg 16).map B).toArray) 16 16 underlying209 aO aT aU aV rfl bd _ _ _ rfl OS ⟨Na.heap.size,0,none⟩ 1 1 (y.map B) rfl (by rw[zaa];exact OW) OE.lies.news (zj y) ew ae OT.lt ?_;intro OF OG OH MC _;have Ng:=OT.lt;have Eu:Below (kb+1) Nf OG:=zU (Below.refl _ _) OS MC (zab _) Ng;refine hK _ _ (λ_=>Eu) ?_;clear hK K;rw[<-QX,<-OV.o] at OH;have aX:=tv I9 OS bd oL rfl;have I9:=zc (I9.kept MC (Or.inr (λh=>aX h.symm)));have OS:=zc OH;have OT:=zc (OT.below Eu (zcQ kb));have EB:=zc (EB.trans (Eu.mono ae));clear MC OH aO aT aU aV Eu aX;go_simp;refine mqK ?_;obtain⟨OX,OY,rfl,OZ,P0⟩:=OS.form ae;refine aeR ?_;intro K hK;refine OT.zd8 (i:=1) (v:=.slice (some ⟨OX,0,none⟩) (i+1) OY) rfl rfl rfl dv rfl rfl ab (λw8 hb8 ho8=>hK _ _ (λh=>by simp at h) ?_);clear hK K;have aX:=own_ne I9 OT bd oL rfl;have I9:=zc (Y3 I9 ho8 aX);have OS:=zc (Y3 OS ho8 ae);have EB:=zc (zi EB ho8 Nr);have OT:=zc hb8;clear hb8 ho8;go_simp;refine yB ?_;go_wp2_with fail;go_roundw;case rel=>exact⟨i+1,_,ae,hM,OS,OT,I9,EB⟩
      case measure=>simp[intOf];omega
     ·obtain rfl:i=n+7:=by omega
      obtain⟨OX,OY,rfl,OZ,P0⟩:=OS.form ae;have P1:=Yk n long bs;have P2:=ha_ ((expand n long bs).take (n+7)=expand n long bs) (zai ae);have aL:=OS.o;rw[P2.o] at aL;have OS:=zc aL;clear aL;have P3:=zc P1;clear P1;go_wp2_with fail;go_ret2;refine⟨kb,OX,0,OY,rfl,?_,⟨Nr,ae⟩,EB⟩;have P4:=VB OS;exact⟨A3.below EB (zab _),P3,ae,P4.1,ae,⟨nT n long bs,zr.zef OS⟩,OT⟩
def Wb(q p:Nat)(ao:OA)(cap:Nat)(bs:La_)(w:World)(ht:Tab w q p)(hlen:bs.length=32)(hl:zr w ao (bs.map B)):Ca_ 104 #[pa_ q,.slice ao 32 cap] w λe w'=>∃kp kb zed zeG,e=.returned (.tuple #[pa_ kp,.int .i64 0])/\jk w' kp q p (expand 8 true bs) kb zed 15 zeG/\(w.heap.size<=kp/\w.heap.size<=kb)/\Below w.heap.size w w' :=
 K2 q p ao 32 cap bs 8 true w ht hlen hl ae ae Fq
def nW(q p:Nat)(ao:OA)(cap:Nat)(bs:La_)(w:World)(ht:Tab w q p)(hlen:bs.length=16)(hl:zr w ao (bs.map B)):Ca_ 104 #[pa_ q,.slice ao 16 cap] w λe w'=>∃kp kb zed zeG,e=.returned (.tuple #[pa_ kp,.int .i64 0])/\jk w' kp q p (expand 4 false bs) kb zed 11 zeG/\(w.heap.size<=kp/\w.heap.size<=kb)/\Below w.heap.size w w' :=
 K2 q p ao 16 cap bs 4 false w ht hlen hl ae ae Fs
def nX(q p:Nat)(ao:OA)(cap:Nat)(bs:La_)(w:World)(ht:Tab w q p)(hlen:bs.length=24)(hl:zr w ao (bs.map B)):Ca_ 104 #[pa_ q,.slice ao 24 cap] w λe w'=>∃kp kb zed zeG,e=.returned (.tuple #[pa_ kp,.int .i64 0])/\jk w' kp q p (expand 6 false bs) kb zed 13 zeG/\(w.heap.size<=kp/\w.heap.size<=kb)/\Below w.heap.size w w' :=
 K2 q p ao 24 cap bs 6 false w ht hlen hl ae ae Ft
end
variable{a b l:La_}{w w0 w':World}{kp q p:Nat}{k:zx}
section
open RowKit
attribute [local irreducible] zA zG zH zE zR
def WG(m:UInt64):(yG m 1).toNat=m.toNat/2:=by have ag:=W2 m 1;omega
def Wc(a:La_)(w:World)(ha:a.length=16):C_b 182 #[.agg (a.map B).toArray] w (.agg ((zfd a).map B).toArray):=by
 have IT:=zc ha;have P5:=l_ a 16 ha;refine aeC ?_;intro EW;clear ha;go_enter func182,ntmps182;go_wp2_with (refine aqC ?_);refine am7 ?_;intro A4 aF sy EW aB;go_wp2_with (refine aqB ?_);refine amb ?_;intro Ev aF sy EW aB;go_wp2_with (refine aqB ?_);refine amg ?_;intro IX aF sy EW aB;generalize M1:w.heap.size=MN at*;generalize A4.heap.size=MP at*;generalize Ev.heap.size=MQ at*;have IZ:=zc M1;clear M1;go_wp2;go_loopw [4,5] (λ_ c wr=>∃(k:Nat)(l:La_),k<=15/\c=.int .i64 k/\Hid (yv (mS a) 16 k l)/\Hid (St w MN wr [(MQ,l.map B,144),(MP,(zg 16).map B,144),(MN,a.map B,144)])) (λ_ c _=>15-(intOf c).toNat);case atStart=>exact⟨0,zg 16,ae,rfl,yv.zero (ze 16),EW⟩
 case round =>
  clear EW;obtain⟨k,l,aQ,rfl,I3,EW⟩:=hrel;by_cases aB:k<15
  ·have ah:decide ((k:Int)<15)=true:=bq;have iy:=λ(x:zL wr.drew)=>(EW.drew.later x.later).get 2 rfl |>.cell k _ (zX (a01 (b:=a) (i:=k) hU))
   have A5:=λ(x:zL wr.drew)=>(EW.drew.later x.later).get 2 rfl |>.cell (k+1) _ (zX (a01 (b:=a) (i:=k+1) hU))
   go_wp2_with fail;refine zp [0,1,2,3,4,5,6,7,8,9,10,11,12] e0 e0 ?_;rintro w4 rfl;refine mqR ?_;have EM:=ha_ (or8 (kT (at8 a k) 1) (zeR (at8 a (k+1)) 7)=mS a k) (by unfold mS;rw[if_pos aB]);refine aeA ?_;intro K hK;refine(EW.drew.get 0 rfl).zd8 (i:=k) (v:=B (or8 (kT (at8 a k) 1) (zeR (at8 a (k+1)) 7))) rfl rfl rfl zm rfl rfl (by rw[zaa,I3.1];omega) (λw5 hb5 ho5=>hK _ _ ?_);clear hK K iy A5;rw[yD,EM.o] at hb5;have EW:=zc (EW.drew.change 0 hb5 ho5 ae bq);clear hb5 ho5;refine aeS ?_;go_wp2;go_roundw;case rel=>exact⟨k+1,_,ae,hM,I3.step ae,EW⟩
   case measure=>simp[intOf];omega
  ·obtain rfl:k=15:=ae;have iy:=EW.g2.cell 15 _ (zX (a01 (b:=a) (i:=15) hU));have A5:=EW.g2.cell 0 _ (zX (a01 (b:=a) (i:=0) hU));obtain⟨w4,Am⟩:∃w4,w4=wr.setCell ⟨MQ,15,none⟩ (.int .u8 ((yj (kT (at8 a 15) 1) (Vd (zeR (at8 a 0) 7) 135)).toNat:Int)):=⟨_,rfl⟩
   have On:=EW.g0.set 15 (B (yj (kT (at8 a 15) 1) (Vd (zeR (at8 a 0) 7) 135)));have oE:Only MQ wr w4:=by rw[Am];exact Only.setCell wr ⟨MQ,15,none⟩ _
   have EM:=ha_ (yj (kT (at8 a 15) 1) (Vd (zeR (at8 a 0) 7) 135)=mS a 15) aa;obtain⟨au,aw⟩:=I3.at (i:=15) ae;have P6:=EW.g0.cell 15 _ (zX aw);have eP:=EW.g0.free 15;rw[yD] at On;have P7:=ha_ (Blk w4 MQ ((l.set 15 (yj (kT (at8 a 15) 1) (Vd (zeR (at8 a 0) 7) 135))).map B) 144) (by rw[Am];exact On);have I9:=zc oE;have MY:=zc Am;clear On oE aw Am;have Oy:=(show l.set 15 (yj (kT (at8 a 15) 1) (Vd (zeR (at8 a 0) 7) 135))=zfd a by rw[EM.o];exact(I3.step ae).all)
   rw[Oy] at P7;clear Oy;have M3:=l_ (zfd a) 16 (Zd a);have P8:=zc (EW.g1.only I9 ae);go_upto_region 8 with fail
   rw[<-MY.o];clear iy A5 P6 eP;go_wp2_with (first|(refine P7.zdS rfl rfl rfl zd M3 ?_)|(refine P8.zdP rfl rfl rfl rfl zd ev M3 (zj _) ?_));intro w5 hb5 ho5;go_wp2;refine ajY hb5 M3 ?_;rw[IZ.o];exact zi (zi EW.bel I9 ae) ho5 ae
def Fw(a b:La_)(wanted:Bool)(w:World)(ha:a.length=16)(hb:b.length=16):C_b 181 #[.agg (a.map B).toArray,.agg (b.map B).toArray,.bool wanted] w (.agg ((zf3 a b wanted).map B).toArray):=by
 have IT:=zc ha;have IU:=zc hb;have P5:=l_ a 16 ha;refine aeC ?_;intro EW;have Nd:=zc (Vg a b ha hb);clear ha hb;go_enter func181,ntmps181;go_wp2_with (refine aqC ?_);refine amf ?_;intro A4 hb sy EW aB;go_wp2_with (refine aqD ?_);refine amt ?_;intro Ev hb sy EW aB;go_wp2_with (refine aqB ?_);refine anw EW ?_;intro IX hb sy EW aB;generalize M1:w.heap.size=MN at*;generalize A4.heap.size=MO at*;generalize Ev.heap.size=MP at*;have IZ:=zc M1;clear M1;cases wanted with
 | false =>
  go_wp2_with (first|(refine EW.g2.zdS rfl rfl rfl zd P5 ?_)|(refine EW.g0.zdP rfl rfl rfl rfl zd ev P5 (zj _) ?_));intro A4 aF oE;go_wp2;refine ajY aF P5 ?_;exact aij
 | true =>
  exact asT
def QA(n:UInt64)(a:La_)(w:World)(ha:a.length=16):C_b 167 #[L n,.agg (a.map B).toArray] w (.agg ((multiple n a).map B).toArray):=by
 have IT:=zc ha;have P5:=l_ a 16 ha;refine aeC ?_;intro EW;clear ha;go_enter func167,ntmps167;go_wp2_with (refine aqC ?_);refine am7 ?_;intro A4 aF sy EW aB;go_wp2_with (refine aqB ?_);refine amb ?_;intro Ev aF sy EW aB;go_wp2_with (refine aqB ?_);refine amg ?_;intro IX aF sy EW aB;generalize M1:w.heap.size=MN at*;generalize A4.heap.size=MP at*;generalize Ev.heap.size=MQ at*;have IZ:=zc M1;clear M1;have Nl:=ha_ (n.toNat<2^64) n.toNat_lt;go_wp2;go_loopw [0] (λc wr=>∃(k:Nat)(m:UInt64)(out x:La_),c=L m/\Hid (m.toNat<2^k)/\Hid (out.length=16)/\Hid (x.length=16)/\Hid (VV k m out x=multiple n a)/\Hid (St w MN wr [(MQ,out.map B,144),(MP,(zg 16).map B,144),(MN,x.map B,144)])) (λc _=>(intOf c).toNat);case atStart=>exact⟨64,n,zg 16,a,rfl,Nl,ze 16,IT,rfl,EW⟩
 case round =>
  clear EW IT Nl;obtain⟨k,m,out,x,rfl,MM,I9,EZ,EM,EW⟩:=hrel;have P9:=l_ out 16 I9;have Pb:=l_ x 16 EZ;by_cases ag:m.toNat=0
  ·have ah:m.toNat<=0:=ae;have Pc:=ha_ (out=multiple n a) (by
    rw[<-EM.o];cases k with
    | zero=>rfl
    | succ k=>unfold VV;rw[if_pos ag])
   clear ag;go_wp2_with (first|(refine EW.g0.zdS rfl rfl rfl zd P9 ?_)|(refine EW.g1.zdP rfl rfl rfl rfl zd ev P9 (zj _) ?_));intro MF Ew oE;go_wp2;refine Ew.result rfl rfl rfl zd P9 ⟨by rw[Pc.o],?_⟩;exact aij
  ·have ah:0<m.toNat:=ae;have Nl:=zc ag;clear ag;go_wp2_with (first|(refine EW.g0.zdS rfl rfl rfl zd P9 ?_)|(refine EW.g2.zdS rfl rfl rfl zd Pb ?_));refine(Fw out x (((xS m 1).toNat:Int)==1) _ I9 EZ).mono ?_;rintro ai A4⟨rfl,Eu⟩;have EW:=zc (EW.later Eu);have Om:=zc (Jl out x (((xS m 1).toNat:Int)==1) I9);have Pd:=l_ (zf3 out x (((xS m 1).toNat:Int)==1)) 16 Om;obtain⟨j,rfl⟩:∃j,k=j+1:=by
    have:=MM.o;have ag:=Nl.o;rcases k with _|k
    ·simp at this;omega
    ·exact⟨k,rfl⟩
   have EM:=ha_ (VV j (yG m 1) (zf3 out x (((xS m 1).toNat:Int)==1)) (zfd x)=multiple n a) (by rw[<-EM.o,VV,if_neg Nl.o]);generalize zf3 out x (((xS m 1).toNat:Int)==1)=Pe at*;clear Eu;go_wp2_with (refine EW.g0.zdP rfl rfl rfl rfl zd P9 Pd (zj _) ?_);intro MF Ew oE;have EW:=zc (EW.change 0 Ew oE ae bq);go_wp2_with (refine EW.g2.zdS rfl rfl rfl zd Pb ?_);refine(Wc x _ EZ).mono ?_;rintro ai A4⟨rfl,ED⟩;have EW:=zc (EW.later ED);have Pf:=zc (Zd x);have Pg:=l_ (zfd x) 16 Pf;generalize zfd x=ef at*;clear ED;go_wp2_with (refine EW.g2.zdP rfl rfl rfl rfl zd Pb Pg (zj _) ?_);intro A4 aF oE;have EW:=zc (EW.change 2 aF oE ae bq);have Ph:(yG m 1).toNat=m.toNat/2:=WG m;have Pj:=ha_ ((yG m 1).toNat<2^j) (by rw[Ph];have:=MM.o;rw[Nat.pow_succ] at this;omega);have Pk:=ha_ ((yG m 1).toNat<m.toNat) ae;clear Ph;go_wp2_with fail;go_roundw;case rel=>exact⟨j,yG m 1,Pe,ef,rfl,Pj,Om,Pf,EM,EW⟩
   case measure=>have:=Pk.o;simp[intOf,L];omega
abbrev bg(bb br bo:Nat)(us:Nat->Value):Act:={ tmps:=#[.int .i64 0,us 1,us 2,.pointer (some ⟨bb,0,none⟩),.pointer (some ⟨br,0,none⟩),.pointer (some ⟨bo,0,none⟩),us 6,us 7,us 8,us 9,us 10,us 11,us 12,us 13,us 14,us 15,us 16,us 17,us 18,us 19,us 20,us 21,us 22,us 23,us 24,us 25,us 26,us 27,us 28,us 29,us 30,us 31,us 32],defers:=[] }
def WQ(n:Nat)(a:La_)(bb br:Nat)(w:World)(x:Act)(wr:World):Prop :=
 ∃(us:Nat->Value)(bo:Nat),x=bg bb br bo us/\Hid (Below bb w wr)/\Hid (Blk wr bb ((zez n a).map B) 144)/\Hid (Blk wr br ((zg 16).map B) 144)
def WQ.intro{n:Nat}{bb br:Nat}{x:Act}{wr:World}(bo:Nat)(hx:x=bg bb br bo (λi=>x.tmps.getD i undef))(h1:Below bb w wr)(h2:Blk wr bb ((zez n a).map B) 144)(h3:Blk wr br ((zg 16).map B) 144):WQ n a bb br w x wr :=
 ⟨_,bo,hx,h1,h2,h3⟩
def B6(n:Nat)(a:La_)(w:World)(ha:a.length=16)(hn:n<128):C_b 180 #[.int .i64 n,.agg (a.map B).toArray] w (.agg ((zez n a).map B).toArray):=by
 have IT:=zc ha;have P5:=l_ a 16 ha;refine aeC ?_;intro EW;clear ha;go_enter func180,ntmps180;go_wp2_with (refine aqC ?_);refine am7 ?_;intro A4 aF sy EW aB;go_wp2_with (refine aqB ?_);refine amb ?_;intro Ev aF sy EW aB;generalize M1:w.heap.size=MN at*;generalize A4.heap.size=MP at*;have IZ:=zc M1;clear M1;have eh:(n:Int)%128=n:=ae;have ah:decide ((n:Int)<0)=false:=ab;go_wp2_with fail;refine zN 0 (WQ n a MN MP w) (λ_ _=>0) rfl ?_ ?_
 ·simp only[qb];go_wp2_with fail;rw[eh];go_loopw [11] (λc wr=>∃(k:Nat)(x:La_),k<=n/\c=.int .i64 k/\Hid (x.length=16)/\Hid (zez (n-k) x=zez n a)/\Hid (St w MN wr [(MP,(zg 16).map B,144),(MN,x.map B,144)])) (λc _=>n-(intOf c).toNat);case atStart=>exact⟨0,a,ae,rfl,IT,rfl,EW⟩
  case round =>
   clear EW IT;obtain⟨k,x,aQ,rfl,EZ,EM,EW⟩:=hrel;have Pb:=l_ x 16 EZ;by_cases aB:k<n
   ·go_wp2_with (refine EW.g1.zdS rfl rfl rfl zd Pb ?_);refine(Wc x _ EZ).mono ?_;rintro ai A4⟨rfl,ED⟩;have EW:=zc (EW.later ED);have Pf:=zc (Zd x);have Pg:=l_ (zfd x) 16 Pf;have EM:=ha_ (zez (n-(k+1)) (zfd x)=zez n a) (by rw[<-EM.o,show n-k=(n-(k+1))+1 by omega,zez]);generalize zfd x=ef at*;clear ED;go_wp2_with (refine EW.g1.zdP rfl rfl rfl rfl zd Pb Pg (zj _) ?_);intro A4 Ew oE;have EW:=zc (EW.change 1 Ew oE ae bq);go_wp2_with fail;go_roundw;case rel=>exact⟨k+1,ef,ae,hM,Pf,EM,EW⟩
    case measure=>simp[intOf];omega
   ·obtain rfl:k=n:=ae;have EM:=ha_ (x=zez k a) (by rw[<-EM.o,zdz];rfl);have eA:(k:Int)/128=0:=ae;go_wp2_with (refine aqB ?_);intro A4 aF sy;have aT:=EW.g0.lt;have aT:=EW.g1.lt;have EW:=zc (EW.push aF sy);have aB:=aF.lt;generalize wr.heap.size=MQ at*;go_wp2_with (refine EW.g0.zdP rfl rfl rfl (cs:=(zg 15++[135]).map B) rfl zd ev ev (zj _) ?_);refine amo ?_;intro A4 aF oE EW;go_wp2_with fail;rw[EM.o] at EW;exact WQ.intro MQ rfl EW.bel EW.g2 EW.g1
 ·rintro x wr⟨NU,MQ,rfl,uX,EZ,uY⟩;have Pb:=l_ (zez n a) 16 (ZD _ _ IT);go_wp2_with (first|(refine EZ.zdS rfl rfl rfl zd Pb ?_)|(refine uY.zdP rfl rfl rfl rfl zd ev Pb (zj _) ?_));intro A4 aF oE;go_wp2;rw[Exit.zdZ];refine ajY aF Pb ?_;rw[IZ.o];exact zi uX oE ae
def St.tail{base:Nat}{e:Nat×Lb_×TypeId}{L:List (Nat×Lb_×TypeId)}(h:St w0 base w (e::L)):St w0 base w L:=⟨h.zeu,h.bel,λx hx=>h.all x (List.mem_cons_of_mem _ hx)⟩
def St.sub{base:Nat}{L L':List (Nat×Lb_×TypeId)}(h:St w0 base w L)(hs:∀e∈L',e∈L):St w0 base w L':=⟨h.zeu,h.bel,λx hx=>h.all x (hs x hx)⟩
def j0{j:Nat}(hlt:j<16)(hl:l.length=16)(h1:∀i,i<j->l[i]? = some (yj (at8 a i) (at8 b i)))(h2:∀i,j<=i->l[i]? = a[i]?):(∀i,i<j+1->(l.set j (yj (at8 a j) (at8 b j)))[i]? = some (yj (at8 a i) (at8 b i)))/\(∀i,j+1<=i->(l.set j (yj (at8 a j) (at8 b j)))[i]? = a[i]?):=by
 refine⟨λi hi=>?_,λi hi=>?_⟩
 ·rw[List.getElem?_set];by_cases ai:j=i
  ·subst ai;simp[hl,hlt]
  ·rw[if_neg ai];exact h1 i ae
 ·rw[List.getElem?_set_ne ae];exact h2 i ae
def QY(hl:l.length=16)(h1:∀i,i<16->l[i]? = some (yj (at8 a i) (at8 b i))):l=both a b:=yv.all (f:=λi=>yj (at8 a i) (at8 b i)) ⟨hl,h1⟩
def vy(ks:List (La_))(x:La_)(hx:x.length=16):(ks.foldl both x).length=16:=by
 induction ks generalizing x with
 | nil=>exact hx
 | cons k r ih=>exact ih _ (zK _ _)
def VC(x:La_)(ao:OA)(n cap:Nat)(ks:List (La_))(w:World)(hx:x.length=16)(hn:ks.length=n)(hnb:n<=1099511627776)(hk:y7 16 w ao ks):C_b 164 #[.agg (x.map B).toArray,.slice ao n cap] w (.agg ((ks.foldl both x).map B).toArray):=by
 have EZ:=zc hx;have Pb:=l_ x 16 hx;have Nl:=zc hn;have MM:=zc hk;refine aeC ?_;intro EW;clear hx hn hk;go_enter func164,ntmps164;go_wp2_with (refine zh 144 _ (x.map B) _ rfl rfl rfl rfl ?_);refine am7 ?_;intro A4 aF sy EW aB;go_wp2_with (refine aqB ?_);refine anw EW ?_;intro Ev aF sy EW II;generalize M1:w.heap.size=MN at*;generalize A4.heap.size=MP at*;have IZ:=zc M1;clear M1;go_wp2;go_loopw [10] (λc wr=>∃(i:Nat)(y:La_),i<=n/\c=.int .i64 i/\Hid (y.length=16)/\Hid ((ks.drop i).foldl both y=ks.foldl both x)/\Hid (St w MN wr [(MP,(zg 16).map B,144),(MN,y.map B,144)])) (λc _=>n-(intOf c).toNat);case atStart=>exact⟨0,x,ae,rfl,EZ,rfl,EW⟩
 case round =>
  clear EW EZ;obtain⟨i,y,hi,rfl,Pn,EM,EW⟩:=hrel;have Po:=l_ y 16 Pn;by_cases aB:i<n
  ·have Ac:ks[i]? = some (key ks i):=jI hG;obtain⟨Np,Nq,rfl,Nr,eI⟩:=(MM.below hV).range ae Ac;refine asH ?_;intro No OD;have EM:=ha_ ((ks.drop (i+1)).foldl both (both y (key ks i))=ks.foldl both x) (by
    rw[<-EM.o,List.drop_eq_getElem_cons (l:=ks) (i:=i) hG,List.foldl_cons];congr 2;have:=List.getElem?_eq_getElem (l:=ks) (i:=i) hG;rw[Ac] at this;exact Option.some.inj this)
   have uY:=zc eI;generalize key ks i=Pp at*;clear Ac eI;go_wp2_with (first|(refine wpList_load_mid rfl 144 (.tmp 12) rfl Np (Nq+i*16) rfl _ _ uY underlying144 rfl hX ?_)|(refine zf 144 ((zg 16).map B) _ rfl rfl zl rfl ?_));intro A4 aF sy;have aT:=EW.g0.lt;have aT:=EW.g1.lt;have EW:=zc (EW.push aF sy);have aB:=aF.lt;generalize wr.heap.size=MO at*;go_wp2_with (refine F9 ?_);refine amo ?_;intro A4 aF oE EW;go_wp2;go_loopw [14] (λc wr=>∃(j:Nat)(l:La_),j<=16/\c=.int .i64 j/\Hid (l.length=16)/\Hid (∀i,i<j->l[i]? = some (yj (at8 y i) (at8 Pp i)))/\Hid (∀i,j<=i->l[i]? = y[i]?)/\Hid (St w MN wr [(MO,Pp.map B,144),(MP,(zg 16).map B,144),(MN,l.map B,144)])) (λc _=>16-(intOf c).toNat);case atStart=>exact⟨0,y,ae,rfl,Pn,λi hi=>absurd hi ae,λi _=>rfl,EW⟩
   case round =>
    clear EW;obtain⟨j,l,aA,rfl,M3,A0,ER,EW⟩:=hrel;by_cases II:j<16
    ·have ah:decide ((j:Int)<16)=true:=bq;have hx:l[j]? = some (at8 y j):=akn;have az:=λ(x:zL wr.drew)=>((EW.drew.later x.later).get 2 rfl).cell j _ (zX hx);have AV:=λ(x:zL wr.drew)=>((EW.drew.later x.later).get 0 rfl).cell j _ (zX (a01 (b:=Pp) (i:=j) j6));clear hx;go_wp2_with fail;refine agd ?_;rintro A4 rfl;refine mqR ?_;clear az AV;refine aeA ?_;intro K hK;refine(EW.drew.get 2 rfl).zd8 (v:=B (yj (at8 y j) (at8 Pp j))) rfl rfl rfl zm rfl rfl fo (λw6 hb6 ho6=>hK _ _ ?_);clear hK K;rw[yD] at hb6;have EW:=zc (EW.drew.change 2 hb6 ho6 ae bq);clear ho6 hb6;refine aeS ?_;go_wp2;go_roundw;case rel=>exact⟨j+1,_,ae,rfl,(by rw[List.length_set];exact M3),(j0 II M3 A0 ER).1,(j0 II M3 A0 ER).2,EW⟩
     case measure=>simp[intOf];omega
    ·obtain rfl:j=16:=ae;have Pq:=QY M3 A0;rw[Pq] at EW;have EW:=zc EW.tail;clear Pq;go_wp2;go_roundw;case rel=>exact⟨i+1,_,ae,hM,zK _ _,EM,EW⟩
     case measure=>simp[intOf];omega
  ·obtain rfl:i=n:=ae;have EM:=ha_ (y=ks.foldl both x) (by rw[<-EM.o,zak (by rw[Nl.o];omega)];rfl);go_wp2_with (first|(refine EW.g1.zdS rfl rfl rfl zd Po ?_)|(refine EW.g0.zdP rfl rfl rfl rfl zd ga Po (zj _) ?_));intro w6 hb6 ho6;have ED:=zi EW.bel ho6 ae;go_wp2;refine hb6.result rfl rfl rfl zd Po ⟨g7,?_⟩;exact ahj
structure qu(w:World)(kp q p:Nat)(k:zx):Prop where
 tab:Tab w q p
 fit:k.Fit
 blk:Blk w kp (.pointer (some ⟨q,0,none⟩)::(k.i++k.j++k.l).map B) 189
def qu.later(h:qu w kp q p k)(hb:Below w.heap.size w w'):qu w' kp q p k:=⟨h.tab.below hb (zab _),h.fit,h.blk.below hb h.blk.lt⟩
def qu.drew(h:qu w kp q p k):qu w.drew kp q p k:=h.later (Below.refl _ _).drew
def qu.only{c:Nat}(h:qu w kp q p k)(ho:Only c w w')(h1:kp≠c)(h2:q≠c)(h3:p≠c):qu w' kp q p k:=⟨h.tab.only ho h3 h2,h.fit,h.blk.only ho h1⟩
def qu.base(h:qu w0 kp q p k)(hb:Below w0.heap.size w0 w):qu w kp q p k:=h.later hb
def qu.ri(h:qu w kp q p k):w.rangeAt kp 1 (k.i.map B):=Blk.zea h.blk 1 16 _ (by simp[h.fit.li])
def qu.rj(h:qu w kp q p k):w.rangeAt kp 17 (k.j.map B):=Blk.zea h.blk 17 16 _ (by simp[h.fit.li,h.fit.lj,zbn])
def qu.rl(h:qu w kp q p k):w.rangeAt kp 33 (k.l.map B):=Blk.zea h.blk 33 16 _ (by
 have h1:List.drop 32 (k.i.map B)=[]:=zak (by simp[h.fit.li]);simp[h.fit.li,h.fit.lj,h.fit.ll,zbn,h1];exact zai (by simp[h.fit.ll]))
def qu.c0(h:qu w kp q p k):w.cell? ⟨kp,0,none⟩=some (.pointer (some ⟨q,0,none⟩)):=h.blk.cell 0 _ rfl
def Li(kp q p n:Nat)(k:zx)(w:World)(hk:qu w kp q p k)(hn:n<3):C_b 166 #[pa_ kp,.int .i64 n] w (.agg ((zf4 k n).map B).toArray):=by
 have MM:=zc hk;refine aeC ?_;intro EW;have NK:=l_ k.i 16 hk.fit.li;have Pr:=l_ k.j 16 hk.fit.lj;have A0:=l_ k.l 16 hk.fit.ll;clear hk;go_enter func166,ntmps166;go_wp2_with (refine aqB ?_);refine anz EW MM ?_;intro A4 aF sy EW MM aB;generalize M1:w.heap.size=MN at*;have IZ:=zc M1;clear M1;obtain rfl|rfl|rfl:n=0\/n=1\/n=2:=ae
 ·go_wp2_with (first|(refine wpList_load_mid rfl 144 (.tmp 13) rfl kp 1 rfl _ _ MM.ri underlying144 rfl (by rw[NK.o];exact zd.2) ?_)|(refine EW.g0.zdP rfl rfl rfl rfl zd ga NK (zj _) ?_));intro A4 aF oE;have ED:=zi EW.bel oE ae;go_wp2;refine ajY aF NK ?_;exact ahj
 ·go_wp2_with (first|(refine wpList_load_mid rfl 144 (.tmp 20) rfl kp 17 rfl _ _ MM.rj underlying144 rfl (by rw[Pr.o];exact zd.2) ?_)|(refine EW.g0.zdP rfl rfl rfl rfl zd ga Pr (zj _) ?_));intro A4 aF oE;have ED:=zi EW.bel oE ae;go_wp2;refine ajY aF Pr ?_;exact ahj
 ·go_wp2_with (first|(refine wpList_load_mid rfl 144 (.tmp 27) rfl kp 33 rfl _ _ MM.rl underlying144 rfl (by rw[A0.o];exact zd.2) ?_)|(refine EW.g0.zdP rfl rfl rfl rfl zd ga A0 (zj _) ?_));intro A4 aF oE;have ED:=zi EW.bel oE ae;go_wp2;refine ajY aF A0 ?_;exact ahj
def B7(kp q p j i:Nat)(k:zx)(w:World)(hk:qu w kp q p k)(hj:j<=1000)(hi:i<=1000):C_b 165 #[pa_ kp,.int .i64 j,.int .i64 i] w (.agg ((offset k j i).map B).toArray):=by
 refine aj1 ?_;intro MM Ng EW Ps Pt NA NK Pr A0;have Pu:=ha_ (zir i<128) (by unfold zir;omega);obtain⟨m,eh⟩:=n_ (i%8);obtain⟨m1,AG⟩:=n_ (min m 1);obtain⟨u,aw⟩:=n_ (zir i);have EN:(if(1:Int)<(m:Int) then(1:Int) else(m:Int))=(m1:Int):=by rw[AG];split<;>omega
 have eI:(i:Int)%8=(m:Int):=ae;have eg:(i:Int)/8+(m1:Int)=(u:Int):=by rw[aw,AG,eh];unfold zir;omega
 have I9:=ha_ (offset k j i=[zez u k.i,multiple (zae m) k.l].foldl both (multiple (zae j) k.j)) (by rw[aw,eh];rfl);have Pv:m<8:=ae;have Pv:m1<=1:=ae;have Pu:=ha_ (u<128) (by rw[aw];exact Pu);clear eh AG aw;have ah:decide ((j:Int)<0)=false:=ab;have ah:decide ((i:Int)<0)=false:=ab;clear hk;go_enter func165,ntmps165;go_wp2_with (refine aqB ?_);refine anz EW MM ?_;intro A4 aF sy EW MM aB;generalize M1:w.heap.size=MN at*;have IZ:=zc M1;clear M1;go_wp2_with fail;refine zp [0,1,2,3,4,5,7,8,9,10,11,13,14,15,16,17,18,19,6,12,20,21,22,23] e0 e0 ?_;rintro A4 rfl;iterate 5 refine m1R ?_
 refine zB MM.drew.rj MM.drew.blk.lt zd Pr rfl rfl rfl rfl (λK hK=>?_);refine ali ?_;clear hK K;iterate 4 refine m1R ?_
 refine zB MM.drew.ri MM.drew.blk.lt zd NK rfl rfl rfl rfl (λK hK=>?_);refine ali ?_;clear hK K;iterate 6 refine m1R ?_
 refine zB MM.drew.rl MM.drew.blk.lt zd A0 rfl rfl rfl rfl (λK hK=>?_);refine ali ?_;clear hK K;refine Pm ?_;intro K hK;rw[show(Value.int .u64 (j:Int))=L (zae j) by simp[L];omega];refine(QA (zae j) k.j _ Pt).mono ?_;rintro ai A4⟨rfl,M6⟩;have EW:=zc (EW.drew.later M6);have A6:=zc (wP (zae j) k.j);generalize multiple (zae j) k.j=er at*;go_simp;refine hK _ _ M6 ?_;clear hK K M6;refine Pm ?_;intro K hK;refine(B6 u k.i _ Ps Pu).mono ?_;rintro ai A4⟨rfl,ED⟩;have EW:=zc (EW.later ED);have Pw:=zc (ZD u k.i Ps);generalize zez u k.i=Px at*;refine amM ?_;clear hK K ED;refine Pm ?_;intro K hK;rw[show(Value.int .u64 (m:Int))=L (zae m) by simp[L];omega];refine(QA (zae m) k.l _ NA).mono ?_;rintro ai Ev⟨rfl,Eu⟩;have EW:=zc (EW.later Eu);have Py:=zc (wP (zae m) k.l);generalize multiple (zae m) k.l=Pz at*;refine alv ?_;clear hK K Eu;refine Sm ?_;intro K hK;refine qD 209 144 16 2 _ [Px.map B,Pz.map B] rfl rfl underlying209 zV rfl ae rfl ae ae (by simp[Pw.o,Py.o]) ?_;intro A4 aF Eu;have EW:=zc (EW.later Eu);refine hK _ _ Eu ?_;clear hK K Eu;have uX:=ha_ (y7 16 A4 (some ⟨Ev.heap.size,0,none⟩) [Px,Pz]) ⟨by simp[Pw.o,Py.o],k5⟩;go_simp;refine Pm ?_;intro K hK;refine(VC er (some ⟨Ev.heap.size,0,none⟩) 2 2 [Px,Pz] _ A6 rfl ae uX).mono ?_;rintro ai A4⟨rfl,MV⟩;have EW:=zc (EW.later MV);rw[<-I9.o];have PA:=l_ (offset k j i) 16 (Kj _ _ _);go_simp;refine hK _ _ MV ?_;clear hK K MV;refine aeA ?_;intro K hK;refine EW.g0.zd4 rfl rfl rfl zd ga PA (zj _) (λw10 zfk ze2=>hK _ _ ?_);clear hK K;have Eu:=zi EW.bel ze2 ae;refine aeS ?_;go_wp2;refine zfk.result rfl rfl rfl zd PA ⟨rfl,?_⟩;exact ah7


/- Laws. -/
import Derived.Test.YtkochfajaaiekaaGreatDoorY22
import Derived.Test.YtkochfajaaiekaaGreatDoorY21
set_option linter.all false
set_option maxHeartbeats 16000000
set_option maxRecDepth 100000
open Array renaming getElem?_append_left->zcB
open List renaming eq_of_mem_replicate->zbJ,length_cons->zaj,length_map->zaa,mem_append->zaC,mem_append_right->zaE,mem_cons->zau,mem_cons_of_mem->zaN,mem_map->zaz,not_mem_nil->zbr,replicate->zah
open Nat renaming le_of_eq->zdi,le_refl->zab,le_succ->zaV,le_trans->zat,mul_one->zbU,zero_le->zcr
open UInt64 renaming ofNat->zae
namespace Go.Proofs.YtkochfajaaiekaaGreatDoor
open Go.Proofs.Tryz
open Go.Proofs.Tryz renaming prog->pgm
def si:∀(s b:La_),qX s=some b->b.length<=s.length
 | [],b,h=>by cases h;exact zab _
 | [_],b,h=>by cases h
 | [a,c],b,h=>by
  exact ahx
 | [a,c,d],b,h=>by
  exact ahx
 | a::c::d::e::r,b,h=>by
  unfold qX at h;split at h
  ·cases hr:qX r with
   | none=>rw[hr] at h;cases h
   | some o =>
    have ih:=si r o hr;rw[hr] at h;cases h;simp only[zaj];omega
  ·cases h
section
open RowKit
attribute [local irreducible] zA zG zH zE zR
def G2(u:UInt64)(s:ByteArray)(w:World):C_e 44 #[.pointer none,L u,.string s] w (.tuple #[.string ⟨#[]⟩,.int .i64 2]):=by go_enter func44,ntmps44;exact aiF
def G3(u:UInt64)(s:ByteArray)(w:World):C_e 45 #[.pointer none,L u,.string s] w (.tuple #[.string ⟨#[]⟩,.int .i64 2]):=by go_enter func45,ntmps45;exact aiF
def L6(np cp:Nat)(k:yo)(pad:Nat)(u:UInt64)(nm:La_)(w:World)(hb:Blk w np [pa_ cp,.int .i64 pad] 124)(hk:xB w cp k)(hl:k.least<=16)(hp:Pad pad):C_b 44 #[pa_ np,L u,.string (str nm)] w (.tuple #[.string (str (MQ k pad u nm).1),.int .i64 (MQ k pad u nm).2]):=by
 by_cases eI:jt nm
 ·have ack:=KV hp eI.1 eI.2.1;have eJ:=Qr hp eI;have ai:MQ k pad u nm=(kV (xG k (zw u) (WD nm pad) false),0):=if_pos eI;rw[ai];have adl:=zc (cS nm pad w hp eI);refine ajJ hb hk hl ?_;intro uX MM A0;obtain⟨Ep,aD⟩:=n_ ((WD nm pad).length);rw[<-aD] at eJ adl;have EO:16<=Ep:=ae;have EO:Ep<=255:=ae;have Nl:=zc aD.symm;generalize str nm=ej at*;clear hb hk hl eI ack eJ aD ai hp;go_enter func44,ntmps44;have adm:=uX.cell 1 (.int .i64 pad) rfl;go_wp2_with fail;refine(adl).mono ?_;rintro e A4⟨ie,rfl,O2,oG,Eu⟩;clear adm;have M8:=zc O2;have EB:=zc Eu;clear O2 Eu;have uX:=zc (uX.below EB uX.lt);have MM:=zc (MM.later EB);have adm:=uX.cell 0 (.pointer (some ⟨cp,0,none⟩)) rfl;go_wp2_with fail;refine(cU _ cp u _ _ (λe w''=>∃v,e=.returned (.tuple #[v,.int .i64 0])/\w''.ownsRow A4.heap.size 5 1 v Ep ((xG k (zw u) (WD nm pad) false).map B)/\Below A4.heap.size A4 w'') (λ_ _=>rfl) ?_).mono ?_
  ·intro ie Ev aF aR;refine(Bm cp k _ 8 8 (zw u) _ Ep Ep (WD nm pad) Ev (MM.later aF) (zy u) ae (zab _) aR Nl (by have:=A0.o;omega) ae (zab _) ((M8.below aF M8.lt).lies)).mono ?_;rintro e Ev⟨v,rfl,oE,Ew⟩;exact⟨v,0,rfl,v,rfl,oE.mono aF.size,aF.trans (Ew.mono aF.size)⟩
  ·rintro e Ev⟨v,rfl,oE,Ew⟩;clear adm;obtain⟨Ny,oF,rfl,I9⟩:=WY oE;have IM:=zc Ew;have I9:=zc I9;have aT:=oE.1;rw[zaa,zbU] at aT;have Ts:=zc aT;rw[aT];clear aT;go_wp2_with fail;refine(L3 Ny Ep oF _ Ev Ts (by have:=I9.1;have:=Ts.o;omega) ae I9.lies).mono ?_;rintro e Ev⟨rfl,aF⟩;have OE:=zc aF;go_wp2;go_ret2;exact⟨rfl,EB.trans ((IM.mono EB.size).trans (OE.mono (zat EB.size IM.size)))⟩
 ·have ai:MQ k pad u nm=([],15):=if_neg eI;rw[ai];have adl:=zc (cT nm pad w hp eI);have uX:=zc hb;generalize str nm=ej at*;clear hb hk hl eI ai hp;go_enter func44,ntmps44;have adm:=uX.cell 1 (.int .i64 pad) rfl;go_wp2_with fail;refine(adl).mono ?_;rintro e A4⟨rfl,rfl⟩;go_wp2;go_ret2;exact⟨rfl,Below.refl _ _⟩
def L7(np cp:Nat)(k:yo)(pad:Nat)(u:UInt64)(t:La_)(w:World)(hb:Blk w np [pa_ cp,.int .i64 pad] 124)(hk:xB w cp k)(hl:k.least<=16)(hp:Pad pad)(ht:t.length<=1000):C_b 45 #[pa_ np,L u,.string (str t)] w (.tuple #[.string (str (nG k pad u t).1),.int .i64 (nG k pad u t).2]):=by
 have NI:=zc (L4 t w ht);refine ajJ hb hk hl ?_;intro uX MM A0;have Ih:=zc hp;have Ox:=zc ht;obtain⟨An,eI⟩:=n_ (nG k pad u t);rw[<-eI];have uY:=zc eI;obtain⟨aN,ah⟩:=n_ (qX t);rw[<-ah] at NI;have adn:=zc ah;generalize str t=ej at*;clear hb hk hl hp ht eI ah;go_enter func45,ntmps45;go_wp2_with fail;refine(NI).mono ?_;rintro e A4⟨acM,Eu⟩;have EB:=zc Eu;have uX:=zc (uX.below EB uX.lt);have MM:=zc (MM.later EB);clear Eu;cases aN with
 | none =>
  have ai:An=([],13):=by rw[uY.o];unfold nG;rw[<-adn.o]
  subst ai;subst acM;go_wp2;go_ret2;exact ak9 EB
 | some b =>
  obtain⟨v,rfl,oE⟩:=acM;obtain⟨Ny,oF,rfl,I9⟩:=WY oE;have I9:=zc I9;obtain⟨Ep,aD⟩:=n_ b.length;rw[<-aD];have Nl:=zc aD.symm;have EO:Ep<=1000000:=by have:=si t b adn.symm;have:=Ox.o;omega
  have OC:=zc (r9 Ep pad A4 EO Ih);clear aD;obtain⟨adp,Oz⟩:=n_ (Ks Ep pad);rw[<-Oz] at OC;have adq:=zc Oz.symm;clear Oz;have adm:=uX.cell 1 (.int .i64 pad) rfl;go_wp2_with fail;refine(OC).mono ?_;rintro e Ev⟨rfl,rfl⟩;clear adm;cases adp with
  | false =>
   have ai:An=([],4):=E2;subst ai;go_wp2;go_ret2;exact ak9 EB
  | true =>
   have ai:An=Vr (xG k (zw u) b true) pad:=E2;have Ns:=nF Ih adq;have EM:=zc ai;clear ai;have adm:=uX.cell 0 (.pointer (some ⟨cp,0,none⟩)) rfl;go_wp2_with fail;refine(cU _ cp u _ _ (λe w''=>∃v,e=.returned (.tuple #[v,.int .i64 0])/\w''.ownsRow A4.heap.size 5 1 v Ep ((xG k (zw u) b true).map B)/\Below A4.heap.size A4 w'') (λ_ _=>rfl) ?_).mono ?_
   ·intro ie Ev aF aR;refine(mf cp k _ 8 8 (zw u) _ Ep oF b Ev (MM.later aF) (zy u) ae (zab _) aR Nl (by have:=A0.o;omega) ae (by have:=I9.1;have:=Nl.o;omega) (I9.lies.below aF)).mono ?_;rintro e A4⟨v,rfl,oE,Ew⟩;exact⟨v,0,rfl,v,rfl,oE.mono aF.size,aF.trans (Ew.mono aF.size)⟩
   ·rintro e A4⟨v,rfl,oE,Ew⟩;clear adm;obtain⟨Ny,oF,rfl,I9⟩:=WY oE;have IM:=zc Ew;have I9:=zc I9;have aT:=oE.1;rw[zaa,zbU] at aT;have Ts:=zc aT;rw[aT];clear aT;have uX:=zc (uX.below IM uX.lt);have adm:=uX.cell 1 (.int .i64 pad) rfl;go_wp2_with fail;refine(C9 Ny Ep oF _ pad A4 Ts (by have:=I9.1;have:=Ts.o;omega) ae I9.lies Ih adq).mono ?_;rintro e A4⟨rfl,aF⟩;have uX:=zc aF;rw[<-EM.o];go_wp2;go_ret2;exact⟨rfl,EB.trans ((IM.mono EB.size).trans (uX.mono (zat EB.size IM.size)))⟩
def gB(k:yo):k.least<=16:=by cases k<;>simp[yo.least]
def G4{F:List Nat}{w:World}{b:Nat}{vs:Lb_}{ty:TypeId}(h:Blk w b vs ty)(hn:b∉F):xA F w (λw'=>Blk w' b vs ty):=λw' hu=>(hu.block b hn h.lt).trans h
def YM:(pgm.info? 59).map (·.size)=some 1:=e0
def KD:(pgm.info? 59).map (·.zero)=some (some (.pointer none)):=e0
def dW:∀args w,(callFunc 43 args).run pgm w=.ok (.enter 43 args) w:=enters func43 e0 rfl
def QP:∀args w,(callFunc 44 args).run pgm w=.ok (.enter 44 args) w:=enters func44 e0 rfl
def QQ:∀args w,(callFunc 45 args).run pgm w=.ok (.enter 45 args) w:=enters func45 e0 rfl
def L8(b1 b2 bp:Nat)(hp q:Nat)(vv nv cv vn:Value)(w:World)(h1:Blk w b1 [vn] 59)(h2:Blk w b2 [pa_ bp] 27)(hb:Blk w bp (qd hp q vv nv cv) 62)(hvn:vn.oneCell'=true)(hvc:vn.cells=#[vn]):Ca_ 43 #[pa_ b1,pa_ b2] w λe w'=>(∃z,e=.returned z)/\Blk w' bp (qd hp q vv vn cv) 62/\Only bp w w':=by have uX:=zc hb;have iy:=h1.cell 0 _ rfl;have iy:=h2.cell 0 _ rfl;clear h1 h2 hb;go_enter func43,ntmps43;go_wp2_with (refine uX.zeJ (i:=3) (v:=vn) rfl rfl rfl rfl YM hvc hvn (by simp[qd]) ?_);exact anf
def cW(z:Int)(ao:OA)(n c:Nat):pgm.built 35 [(0,.int .i64 z),(2,.slice ao n c)]=some #[.int .i64 z,.int .i64 0,.slice ao n c]:=e0
section
variable{F O:List Nat}{w:World}{bp hp q p:Nat}{s:yN}{ss:List Str}{vv nv cv:Value}{x:Opr}
def L9(h:yr F O w bp s hp q p ss vv nv cv)(hx:yT F w x)(hk:x.c.kind=10)(hn:¬x.c.n<0):C_b 44 #[nv,L (zae x.c.n.toNat),.string (str x.c.name)] w (.tuple #[.string (str (ju s x.c).2.2.2),.int .i64 (ju s x.c).2.1]):=by
 have az:=h.nam;unfold ju;rw[if_neg ae,if_neg hn];cases e:s.nam with
 | none =>
  rw[e] at az;cases az;exact(G2 _ _ w).mono λe w' ⟨he,hb⟩=>⟨he,hb▸Below.refl _ _⟩
 | some kp =>
  obtain⟨Pp,adr⟩:=kp;rw[e] at az;obtain⟨aaj,a2s,rfl,MR⟩:=az;have aby:=h.zei.nam Pp adr e;simp only;rw[if_pos hk];exact L6 aaj a2s Pp adr _ _ w MR.self.1 MR.self.2 (gB Pp) aby.2
def Ma(h:yr F O w bp s hp q p ss vv nv cv)(hx:yT F w x)(hk:x.c.kind=11)(hn:¬x.c.n<0):C_b 45 #[nv,L (zae x.c.n.toNat),.string (str x.c.name)] w (.tuple #[.string (str (ju s x.c).2.2.2),.int .i64 (ju s x.c).2.1]):=by
 have az:=h.nam;unfold ju;rw[if_neg ae,if_neg hn];cases e:s.nam with
 | none =>
  rw[e] at az;cases az;exact(G3 _ _ w).mono λe w' ⟨he,hb⟩=>⟨he,hb▸Below.refl _ _⟩
 | some kp =>
  obtain⟨Pp,adr⟩:=kp;rw[e] at az;obtain⟨aaj,a2s,rfl,MR⟩:=az;have aby:=h.zei.nam Pp adr e;simp only;rw[if_neg ae];exact L7 aaj a2s Pp adr _ _ w MR.self.1 MR.self.2 (gB Pp) aby.2 hx.few.2.2
def sj(s:yN){x:Cmd}(h:x.kind=10\/x.kind=11):(ju s x).1=s/\(ju s x).2.2.1=0:=by
 unfold ju;rw[if_neg ae];split
 ·exact aeU
 ·cases s.nam with
  | none=>exact⟨rfl,rfl⟩
  | some k =>
   obtain⟨k,adr⟩:=k;simp only;split;all_goals exact⟨rfl,rfl⟩
def Mb(h:xi F O w bp s)(hx:yT F w x)(hg:yi w)(hk:x.c.kind=9):Ca_ 22 #[pa_ bp,.agg x.vals.toArray] w (yh F O w bp (ju s x.c)):=by
 obtain⟨eE,ey,p,a6h,a4F,a2v,abw,hi⟩:=h;refine ajJ hk hi hx ?_;intro MM A6 EZ;have M8:=zc hg;refine aeC ?_;intro EW;refine aoE ?_;intro c az V Ty SW OS;have abJ:=ha_ (ju s x.c=(if c=0 then(if x.c.n=16\/x.c.n=32\/x.c.n=64 then({ s with nam:=some (V,x.c.n.toNat) },(0,0,[])) else(s,(4,0,[]))) else(s,(c,0,[])))/\True) ⟨by
  unfold ju;rw[if_pos hk,az,Ty];by_cases ag:zd6 x.c.a x.c.key.length=0
  ·rw[if_neg c6,if_pos (show((zd6 x.c.a x.c.key.length:Nat):Int)=0 by omega)]
  ·rw[if_pos c6,if_neg ae],trivial⟩
 clear az Ty;clear hk hi hx hg;go_enter func22,ntmps22;go_wp2_with (refine ar0 ?_);refine am7 ?_;intro A4 aF sy EW aB;go_wp2_with (refine aqY ?_);refine amb ?_;intro Ev aF sy EW aB;go_wp2_with (refine aqZ ?_);refine anw EW ?_;intro w3 aF sy EW aB;refine aeO ?_;intro aT EM uX EZ M8 a9X aX;have iy:=EW.g1.cell 0 (.int .i64 9) vi;have Pp:=λ(z:zO (Below w3.heap.size) w3.drew)=>((EW.drew.get 2 rfl).below z.rel ae).cell 0 (.pointer (some ⟨bp,0,none⟩)) rfl;have TC:=λ(z:zO (Below w3.heap.size) w3.drew)=>((EW.drew.get 1 rfl).below z.rel ae).cell 1 (.int .i64 x.c.a) rfl;have a7K:=λ(z:zO (Below w3.heap.size) w3.drew)=>((EW.drew.get 1 rfl).below z.rel ae).cell 4 (.slice x.ko x.c.key.length x.kc) rfl;have Np:=λ(z:zO (Below w3.heap.size) w3.drew)=>(uX.blk.drew.below z.rel (by show bp<w3.heap.size;omega)).cell 1 (.pointer (some ⟨ey,0,none⟩)) rfl;go_wp2_with fail;refine yg (Below w3.heap.size) [] [(0,true),(1,true),(2,true),(3,true),(4,true),(5,true),(6,true),(7,true),(8,false),(9,true),(10,true),(11,true),(12,true),(13,true)] (Below.refl w3.heap.size) (λ_ _ _ h k=>h.trans k) e0 e0 ?_;rintro ad7 rfl;iterate 8 refine m1K ?_
 clear iy Pp TC a7K Np;refine al8 ?_;intro K hK;have ah:Below w3.heap.size w3 w3.drew:=(Below.refl _ _).drew;have abP:∀i∈[Ev.heap.size,A4.heap.size,w.heap.size]++F,i<w3.drew.heap.size/\i≠ey/\i≠p:=λi hi=>mA uX.tabs ah (.inl hi);refine(se ([Ev.heap.size,A4.heap.size,w.heap.size]++F) x.c.a ey p x.ko x.c.key.length x.kc x.c.key _ rfl EZ.in.kc.1 (EZ.in.key.below ah) (uX.tabs.tab.self.below ah (zab _)) (M8.below ah) abP).mono ?_;rintro e adt⟨abQ,rfl,OZ,sy⟩;rw[SW.1] at OZ |-;rw[OS.1] at OZ;have oZ:Below w3.heap.size w3.drew adt:=sy;have eg:=sy.size;have To:=zc (ah.trans sy);have abU:=zc OZ;go_simp;refine hK _ _ (λ_=>oZ) ?_;clear hK K oZ ah abP OZ;iterate 5 refine m1K ?_
 refine yB ?_;have EX:=zc (EW.later To);have ad8:=To.size;have TO:=zc (EM.trans (Ext.of_below To) (λi hi=>.inl hi));have HBL:=zc (uX.below To);have abA:=zc EX.g0;by_cases az:c=0;rotate_left
 ·refine ajU az ?_;intro SW;have a57:=jo c;go_wp2_with (refine abA.zdP rfl rfl rfl (cs:=[.int .i64 c,.int .i64 0,.slice none 0 0]) rfl zn rfl rfl (ye _ _ _ _ _) ?_);refine anx ?_;intro IX aF oE EB I9;go_wp2;first|(rw[Exit.zdZ])|skip
  refine afW ?_;rw[abJ.1,if_neg SW.1];exact yh.of (N:=[]) (A:=[Ev.heap.size,A4.heap.size,w.heap.size]) ⟨_,_,_,_,_,_,_,HBL⟩ (yq.none [] w3.heap.size adt) TO I9 (λi hi=>by cases hi) ab ae ae a9X.1 a9X.2 rfl
 ·refine ajU az ?_;intro SW;obtain⟨cp,ai,a1l⟩:=abU.good az;obtain rfl:abQ=some ⟨cp,0,none⟩:=by cases ai;rfl
  have HCP:=zc a1l;subst az;clear a1l ai;have iy:=EX.g1.cell 2 (.int .i64 x.c.n) rfl;go_wp2_with fail;by_cases adu:x.c.n=16\/x.c.n=32\/x.c.n=64;rotate_left
  ·refine(G0 cp x.c.n _ adu).mono ?_;rintro e MF⟨rfl,rfl⟩;have adl:=zc (And.intro adu trivial);clear adu iy;go_wp2_with (refine zf 59 [.pointer none] _ rfl rfl KD rfl ?_);refine anx ?_;intro Na Ew ED Nd IM;have aT:=ED.size;clear ED;go_wp2_with (refine Nd.zeJ (i:=0) (v:=.pointer none) rfl rfl rfl rfl YM rfl rfl ab ?_);intro Nf Ex Oo;have TQ:=zc Oo;have OE:=zc (zi IM TQ (zab _));have abA:=zc (abA.below OE abA.lt);have a57:=jo 4;go_wp2_with fail;refine(VQ 4 _ _ bd).mono ?_;rintro e IX⟨rfl,rfl⟩;go_wp2_with (refine abA.zdP rfl rfl rfl (cs:=[.int .i64 4,.int .i64 0,.slice none 0 0]) rfl zn rfl rfl (ye _ _ _ _ _) ?_);refine anx ?_;intro IX aF oE EB I9;go_wp2;first|(rw[Exit.zdZ])|skip
   refine afW ?_;rw[abJ.1,if_pos trivial,if_neg adl.1];exact yh.of (N:=[]) (A:=[Ev.heap.size,A4.heap.size,w.heap.size]) ⟨_,_,_,_,_,_,_,HBL.below OE⟩ (yq.none [] w3.heap.size Nf) (TO.trans (Ext.of_below OE) (λi hi=>.inl hi)) I9 (λi hi=>by cases hi) ab ae ae a9X.1 a9X.2 rfl
  ·obtain⟨pad,adv⟩:∃pad:Nat,x.c.n=pad:=⟨x.c.n.toNat,ae⟩
   have adw:Pad pad:=by unfold Pad;omega
   rw[adv];refine(L2 cp pad _ adw).mono ?_;rintro e MF⟨np,rfl,PC,aD,M6⟩;have adl:=zc (And.intro adu (And.intro adv adw));have adx:=zc M6;have EE:=zc PC;have aU:=M6.size;have ady:=PC.lt;clear adu iy adw adv M6 PC;go_wp2_with (refine zf 59 [.pointer none] _ rfl rfl KD rfl ?_);refine anx ?_;intro Na Ew ED Nd IM;have aT:=Ew.lt;clear ED;go_wp2_with (refine Nd.zeJ (i:=0) (v:=.pointer (some ⟨np,0,none⟩)) rfl rfl rfl rfl YM rfl rfl ab ?_);intro Nf Ex Oo;have OE:=zc (zi IM Oo (zab _));have Nd:=zc Ex;have adz:=zc (adx.trans (OE.mono aU));have aT:=OE.size;have adA:=Ex.lt;have abA:=zc (abA.below adz abA.lt);have EE:=zc (EE.below OE EE.lt);obtain⟨Nc,Nb⟩:=n_ MF.heap.size;rw[<-Nb] at Nd |-;have Ew:adt.heap.size<=Nc:=ae;have adC:Nc<Nf.heap.size:=ae;have adD:np≠Nc:=ae;clear Nb;have HBL:=zc (HBL.news (A:=[Nc]) adz bq);have HCP:=zc (HCP.wider (F':=[Nc]++([Ev.heap.size,A4.heap.size,w.heap.size]++F)) adz (λi hi=>(zaC.1 hi).elim (λh=>.inr Aw) .inl));have adE:np∉[Nc]++([Ev.heap.size,A4.heap.size,w.heap.size]++F):=by
    intro hi;rcases zaC.1 hi with hi|hi
    ·simp at hi;exact adD hi
    ·have ag:=uX.tabs.lt _ hi;omega
   have HNK:=zc (G4 EE adE);have a9R:=dW;have aG:Blk Nf w.heap.size [.pointer (some ⟨bp,0,none⟩)] 27:=(EX.later adz).get 2 rfl;go_wp2_with fail;refine(cP 43 _ _ _ (λw'=>Blk w' bp (qd eE ey a4F (.pointer (some ⟨np,0,none⟩)) abw) 62/\Only bp Nf w') a9R (L8 Nc w.heap.size bp eE ey a4F a2v abw (.pointer (some ⟨np,0,none⟩)) Nf Nd aG HBL.blk rfl rfl)).mono ?_;rintro e MF⟨rfl,hb5,ho5⟩;have uY:=ha_ (xi ([]++([Ev.heap.size,A4.heap.size,w.heap.size]++F)) ([]++O) MF bp { s with nam:=some (V,pad) }) (by
    have aM:=HBL.store (s':={ s with nam:=some (V,pad) }) hb5 ho5 rfl HBL.vol ⟨np,cp,rfl,λw' hu=>⟨HNK w' hu,HCP w' hu⟩⟩ HBL.cip ⟨HBL.zei.hdr,HBL.zei.vol,λk p e=>by cases e;exact⟨OS.2,adl.2.2⟩,HBL.zei.cip⟩;exact⟨_,_,_,_,_,_,_,aM.narrow (λi hi=>zaE _ hi) (λi hi=>by have ag:=a9X.2 i hi;simp[ag])⟩)
   have EM:=zc ((TO.trans (Ext.of_below (D:=O) adz) (λi hi=>.inl hi)).trans (Ext.zd1 ho5 (D:=O) A6.own.1) (λi hi=>.inl hi));have abA:=zc (abA.only ho5 ae);have a57:=jo 0;clear a9R adE aG;go_wp2_with (refine abA.zdP rfl rfl rfl (cs:=[.int .i64 0,.int .i64 0,.slice none 0 0]) rfl zn rfl rfl (ye _ _ _ _ _) ?_);refine anx ?_;intro IX aF oE EB I9;go_wp2;first|(rw[Exit.zdZ])|skip
   refine afW ?_;rw[abJ.1,if_pos trivial,if_pos adl.1,show x.c.n.toNat=pad from by have:=adl.2.1;omega];exact yh.of uY (yq.none [] w3.heap.size MF) EM I9 (λi hi=>by cases hi) ab ae ae a9X.1 a9X.2 rfl
end
section
variable{F O:List Nat}{w:World}{bp hp q p:Nat}{s:yN}{ss:List Str}{vv nv cv:Value}{x:Opr}
def G5(h:xi F O w bp s)(hx:yT F w x)(hg:yi w)(hk:x.c.kind=10):Ca_ 22 #[pa_ bp,.agg x.vals.toArray] w (yh F O w bp (ju s x.c)):=by
 refine alL ?_;intro eE ey ox a6h a4F a2v abw hi MM A6 EZ M8 EW;clear h;clear hk hi hx hg;go_enter func22,ntmps22;go_wp2_with (refine ar0 ?_);refine am7 ?_;intro A4 aF sy EW aB;go_wp2_with (refine aqY ?_);refine amb ?_;intro Ev aF sy EW aB;go_wp2_with (refine aqZ ?_);refine amg ?_;intro IX aF sy EW aB;refine aeO ?_;intro aT EM uX EZ M8 a9X aX;have iy:=EW.g1.cell 0 (.int .i64 10) vi;have A5:=EW.g1.cell 2 (.int .i64 x.c.n) rfl;have abA:=zc EW.g0;by_cases aD:x.c.n<0
 ·exact aoO
 ·have Nl:=zc (And.intro aD trivial);obtain⟨au,aw⟩:=n_ (zae x.c.n.toNat);have SW:=zc (L9 uX EZ MM Nl.1);exact aoS
def G6(h:xi F O w bp s)(hx:yT F w x)(hg:yi w)(hk:x.c.kind=11):Ca_ 22 #[pa_ bp,.agg x.vals.toArray] w (yh F O w bp (ju s x.c)):=by
 refine alL ?_;intro eE ey ox a6h a4F a2v abw hi MM A6 EZ M8 EW;clear h;clear hk hi hx hg;go_enter func22,ntmps22;go_wp2_with (refine ar0 ?_);refine am7 ?_;intro A4 aF sy EW aB;go_wp2_with (refine aqY ?_);refine amb ?_;intro Ev aF sy EW aB;go_wp2_with (refine aqZ ?_);refine amg ?_;intro IX aF sy EW aB;refine aeO ?_;intro aT EM uX EZ M8 a9X aX;have iy:=EW.g1.cell 0 (.int .i64 11) vi;have A5:=EW.g1.cell 2 (.int .i64 x.c.n) rfl;have abA:=zc EW.g0;by_cases aD:x.c.n<0
 ·exact aoO
 ·have Nl:=zc (And.intro aD trivial);obtain⟨au,aw⟩:=n_ (zae x.c.n.toNat);have SW:=zc (Ma uX EZ MM Nl.1);exact aoS
end
section
variable{F O:List Nat}{w:World}{bp hp q p:Nat}{s:yN}{ss:List Str}{vv nv cv:Value}{x:Opr}
def Da(h:xi F O w bp s)(hx:yT F w x)(hg:yi w)(hk:x.c.kind=1):Ca_ 21 #[pa_ bp,.agg x.vals.toArray] w (yh F O w bp (z6 s x.c)):=by refine alL ?_;intro eE ey ox a6h a4F a2v abw hi MM A6 EZ M8 EW;clear h;have OS:=ha_ (z6 s x.c=((kS s x.c x.c.key).1,((kS s x.c x.c.key).2,0,[]))/\True) ⟨by unfold z6;rw[if_pos hk],trivial⟩;clear hk hi hx hg;go_enter func21,ntmps21;go_wp2_with (refine aqY ?_);refine am7 ?_;intro A4 aF sy EW aB;go_wp2_with (refine aqZ ?_);refine amb ?_;intro Ev aF sy EW aB;refine akM ?_;intro EM uX EZ M8 a9X abz abA Ik aX;generalize M1:w.heap.size=MN at*;generalize A4.heap.size=MP at*;have iy:=abz.cell 0 (.int .i64 1) vi;have A5:=abz.cell 4 (.slice x.ko x.c.key.length x.kc) rfl;go_wp2_with (refine HY ?_);go_wp2_with fail;refine(cQ (x:=x) uX M8 x.ko _ x.kc x.c.key rfl EZ.in.kc.1 EZ.in.key).mono ?_;rintro ai A4⟨rfl,adH,aF,aJ,acg⟩;refine afD ?_;intro abA EM;have uY:=zc aF;have Nl:=zc acg;obtain⟨ib,eP⟩:=n_ ((kS s x.c x.c.key).2);have I3:=zc (And.intro eP.symm trivial);rw[<-eP];clear aJ acg eP iy A5;go_wp2_with (refine abA.zeJ (i:=0) (v:=.int .i64 ib) rfl rfl rfl rfl yJ rfl rfl vu ?_);refine anx ?_;intro IX aF oE abA I9;go_wp2_with (first|(refine abA.zdS rfl rfl rfl zn rfl ?_)|(refine abA.zdP rfl rfl rfl (cs:=[.int .i64 ib,.int .i64 0,.slice none 0 0]) rfl zn rfl rfl (ye _ _ _ _ _) ?_));intro IX aF oE;have uX:=zc aF;have I9:=zc (I9.trans oE);go_wp2;refine uX.result rfl rfl rfl zn rfl ?_;rw[OS.1,I3.1];exact yh.of uY (yq.none adH Ev.heap.size A4) EM I9 Nl ab ae ae a9X.1 a9X.2.2 rfl
def sk(h:xi F O w bp s)(hf:XM s)(hx:yT F w x)(hg:yi w)(h1:1<=x.c.kind)(h2:x.c.kind<=8):Ca_ 21 #[pa_ bp,.agg x.vals.toArray] w (yh F O w bp (z6 s x.c)):=by
 rcases(show x.c.kind=1\/x.c.kind=2\/x.c.kind=3\/x.c.kind=4\/x.c.kind=5\/x.c.kind=6\/x.c.kind=7\/x.c.kind=8 by omega) with k|k|k|k|k|k|k|k
 ·exact Da h hx hg k
 ·exact CZ h hf hx hg k
 ·exact C0 h hf hx hg k
 ·exact C1 h hf hx hg k
 ·by_cases eh:x.c.m<0\/255<x.c.m
  ·exact Ut h k eh
  ·exact C2 h hf hx hg k ae
 ·exact C3 h hf hx hg k
 ·exact C4 h hf hx hg k
 ·exact C5 h hf hx hg k
def Db(h:xi F O w bp s)(hx:yT F w x)(hg:yi w)(h1:9<=x.c.kind)(h2:x.c.kind<=11):Ca_ 22 #[pa_ bp,.agg x.vals.toArray] w (yh F O w bp (ju s x.c)):=by
 rcases(show x.c.kind=9\/x.c.kind=10\/x.c.kind=11 by omega) with k|k|k
 ·exact Mb h hx hg k
 ·exact G5 h hx hg k
 ·exact G6 h hx hg k
def Dc(h:xi F O w bp s)(hx:yT F w x)(hg:yi w)(h1:12<=x.c.kind)(h2:x.c.kind<=14):Ca_ 23 #[pa_ bp,.agg x.vals.toArray] w (yh F O w bp (qe s x.c)):=by
 rcases(show x.c.kind=12\/x.c.kind=13\/x.c.kind=14 by omega) with k|k|k
 ·exact G1 h hx hg k
 ·by_cases aZ:x.c.m=0
  ·exact UC h hx k aZ
  ·by_cases a7s:x.c.m=1
   ·exact UD h hx k a7s
   ·exact Bq h (.inl k) ⟨aZ,a7s⟩
 ·by_cases aZ:x.c.m=0
  ·exact UE h hx k aZ
  ·by_cases a7s:x.c.m=1
   ·exact UF h hx k a7s
   ·exact Bq h (.inr k) ⟨aZ,a7s⟩
def sn(h:xi F O w bp s)(hx:yT F w x)(hg:yi w)(h1:15<=x.c.kind)(h2:x.c.kind<=18):Ca_ 24 #[pa_ bp,.agg x.vals.toArray] w (yh F O w bp (kg s x.c)):=by
 rcases(show x.c.kind=15\/x.c.kind=16\/x.c.kind=17\/x.c.kind=18 by omega) with k|k|k|k
 ·exact Uw h hx hg k
 ·exact Ux h hx hg k
 ·exact Uy h hx hg k
 ·exact Uz h hx hg k
def zjM(h:xi F O w bp s)(hf:XM s)(hx:yT F w x)(hg:yi w)(kk:Int)(hkk:x.c.kind=kk)(hh:kk<1\/18<kk):Ca_ 13 #[pa_ bp,.agg x.vals.toArray] w (yh F O w bp (do1 s x.c)):=by
 refine afp ?_;intro eE ey ox a6h a4F a2v abw hi MM A6 EZ M8 I3;clear h;refine aeC ?_;intro EW;have uY:=ha_ (do1 s x.c=(s,(22,0,[]))/\True) ⟨by unfold do1;rw[hkk];rw[if_pos hh],trivial⟩;refine ajU hh ?_;intro PW;clear hi hx hg hf hkk;go_enter func13,ntmps13;go_wp2_with (refine aqY ?_);refine am7 ?_;intro A4 aF sy EW aB;go_wp2_with (refine aqZ ?_);refine amb ?_;intro Ev aF sy EW aB;refine Qm ?_;intro EM uX EZ M8;have a9X:=zc (And.intro (A6.low (a:=A4.heap.size) ae) A6.sub);have abz:=zc EW.g1;have abA:=zc EW.g0;have iy:=abz.cell 0 (.int .i64 kk) ES;have a57:=jo 22;rcases hh with hh|hh
 ·exact ams
 ·have oI:1<=kk:=by omega
  exact ams
def zjN(h:xi F O w bp s)(hf:XM s)(hx:yT F w x)(hg:yi w)(kk:Int)(hkk:x.c.kind=kk)(hh:1<=kk/\kk<=8):Ca_ 13 #[pa_ bp,.agg x.vals.toArray] w (yh F O w bp (do1 s x.c)):=by refine afp ?_;intro eE ey ox a6h a4F a2v abw hi MM A6 EZ M8 I3;clear h;refine aeC ?_;intro EW;have uY:=ha_ (do1 s x.c=z6 s x.c/\True) ⟨by unfold do1;rw[hkk];rw[if_neg (by omega),if_pos (by omega)],trivial⟩;refine ajU hh ?_;intro PW;clear hi hx hg hf hkk;go_enter func13,ntmps13;go_wp2_with (refine aqY ?_);refine am7 ?_;intro A4 aF sy EW aB;go_wp2_with (refine aqZ ?_);refine amb ?_;intro Ev aF sy EW aB;refine Qm ?_;intro EM uX EZ M8;refine afi ?_;intro a9X abz abA iy NJ aG;have E9:kk<=8:=ae;clear hh;go_wp2_with (refine HY ?_);go_wp2_with fail;refine(sk ⟨_,_,_,_,_,_,_,uX⟩ I3 EZ M8 ET ET).mono ?_;rintro ai A4⟨Ny,oF,adH,rfl,abB,aF,aJ,acg⟩;refine afD ?_;intro abA EM;refine ajJ aF acg abB ?_;intro a7j Nl a6q;obtain⟨An,eI⟩:=n_ (z6 s x.c);rw[<-eI] at uY a7j a6q |-;clear eI aJ acg abB iy NJ aG E9;exact amk
def zjO(h:xi F O w bp s)(hf:XM s)(hx:yT F w x)(hg:yi w)(kk:Int)(hkk:x.c.kind=kk)(hh:9<=kk/\kk<=11):Ca_ 13 #[pa_ bp,.agg x.vals.toArray] w (yh F O w bp (do1 s x.c)):=by refine afp ?_;intro eE ey ox a6h a4F a2v abw hi MM A6 EZ M8 I3;clear h;refine aeC ?_;intro EW;have uY:=ha_ (do1 s x.c=ju s x.c/\True) ⟨by unfold do1;rw[hkk];rw[if_neg (by omega),if_neg (by omega),if_pos (by omega)],trivial⟩;refine ajU hh ?_;intro PW;clear hi hx hg hf hkk;go_enter func13,ntmps13;go_wp2_with (refine aqY ?_);refine am7 ?_;intro A4 aF sy EW aB;go_wp2_with (refine aqZ ?_);refine amb ?_;intro Ev aF sy EW aB;refine Qm ?_;intro EM uX EZ M8;refine afi ?_;intro a9X abz abA iy NJ aG;have a2g:8<kk:=ae;have E9:kk<=11:=ae;clear hh;go_wp2_with (refine HY ?_);go_wp2_with fail;refine(Db ⟨_,_,_,_,_,_,_,uX⟩ EZ M8 ET ET).mono ?_;rintro ai A4⟨Ny,oF,adH,rfl,abB,aF,aJ,acg⟩;refine afD ?_;intro abA EM;refine ajJ aF acg abB ?_;intro a7j Nl a6q;obtain⟨An,eI⟩:=n_ (ju s x.c);rw[<-eI] at uY a7j a6q |-;clear eI aJ acg abB iy NJ aG a2g E9;exact amk
def zjP(h:xi F O w bp s)(hf:XM s)(hx:yT F w x)(hg:yi w)(kk:Int)(hkk:x.c.kind=kk)(hh:12<=kk/\kk<=14):Ca_ 13 #[pa_ bp,.agg x.vals.toArray] w (yh F O w bp (do1 s x.c)):=by refine afp ?_;intro eE ey ox a6h a4F a2v abw hi MM A6 EZ M8 I3;clear h;refine aeC ?_;intro EW;have uY:=ha_ (do1 s x.c=qe s x.c/\True) ⟨by unfold do1;rw[hkk];rw[if_neg (by omega),if_neg (by omega),if_neg (by omega),if_pos (by omega)],trivial⟩;refine ajU hh ?_;intro PW;clear hi hx hg hf hkk;go_enter func13,ntmps13;go_wp2_with (refine aqY ?_);refine am7 ?_;intro A4 aF sy EW aB;go_wp2_with (refine aqZ ?_);refine amb ?_;intro Ev aF sy EW aB;refine Qm ?_;intro EM uX EZ M8;refine afi ?_;intro a9X abz abA iy NJ aG;have a2g:8<kk:=ae;have adI:11<kk:=ae;have E9:kk<=14:=ae;clear hh;go_wp2_with (refine HY ?_);go_wp2_with fail;refine(Dc ⟨_,_,_,_,_,_,_,uX⟩ EZ M8 ET ET).mono ?_;rintro ai A4⟨Ny,oF,adH,rfl,abB,aF,aJ,acg⟩;refine afD ?_;intro abA EM;refine ajJ aF acg abB ?_;intro a7j Nl a6q;obtain⟨An,eI⟩:=n_ (qe s x.c);rw[<-eI] at uY a7j a6q |-;clear eI aJ acg abB iy NJ aG a2g adI E9;exact amk
def zjQ(h:xi F O w bp s)(hf:XM s)(hx:yT F w x)(hg:yi w)(kk:Int)(hkk:x.c.kind=kk)(hh:15<=kk/\kk<=18):Ca_ 13 #[pa_ bp,.agg x.vals.toArray] w (yh F O w bp (do1 s x.c)):=by refine afp ?_;intro eE ey ox a6h a4F a2v abw hi MM A6 EZ M8 I3;clear h;refine aeC ?_;intro EW;have uY:=ha_ (do1 s x.c=kg s x.c/\True) ⟨by unfold do1;rw[hkk];rw[if_neg (by omega),if_neg (by omega),if_neg (by omega),if_neg (by omega)],trivial⟩;refine ajU hh ?_;intro PW;clear hi hx hg hf hkk;go_enter func13,ntmps13;go_wp2_with (refine aqY ?_);refine am7 ?_;intro A4 aF sy EW aB;go_wp2_with (refine aqZ ?_);refine amb ?_;intro Ev aF sy EW aB;refine Qm ?_;intro EM uX EZ M8;refine afi ?_;intro a9X abz abA iy NJ aG;have a2g:8<kk:=ae;have adI:11<kk:=ae;have adJ:14<kk:=ae;clear hh;go_wp2_with (refine HY ?_);go_wp2_with fail;refine(sn ⟨_,_,_,_,_,_,_,uX⟩ EZ M8 ET ET).mono ?_;rintro ai A4⟨Ny,oF,adH,rfl,abB,aF,aJ,acg⟩;refine afD ?_;intro abA EM;refine ajJ aF acg abB ?_;intro a7j Nl a6q;obtain⟨An,eI⟩:=n_ (kg s x.c);rw[<-eI] at uY a7j a6q |-;clear eI aJ acg abB iy NJ aG a2g adI adJ;exact amk
def mE(h:xi F O w bp s)(hf:XM s)(hx:yT F w x)(hg:yi w):Ca_ 13 #[pa_ bp,.agg x.vals.toArray] w (yh F O w bp (do1 s x.c)):=by
 by_cases ag:x.c.kind<1\/18<x.c.kind
 ·exact zjM h hf hx hg _ rfl ag
 ·by_cases ag:x.c.kind<=8
  ·exact zjN h hf hx hg _ rfl ae
  ·by_cases ag:x.c.kind<=11
   ·exact zjO h hf hx hg _ rfl ae
   ·by_cases ag:x.c.kind<=14
    ·exact zjP h hf hx hg _ rfl ae
    ·exact zjQ h hf hx hg _ rfl ae
end
def NH(x:Opr)(w:World):C_b 13 #[.pointer none,.agg x.vals.toArray] w (.agg #[.int .i64 2,.int .i64 0,.slice none 0 0]):=by
 refine aeC ?_;intro EW;go_enter func13,ntmps13;go_wp2_with (refine aqY ?_);refine am7 ?_;intro A4 aF sy EW aB;go_wp2_with (refine aqZ ?_);refine am7 ?_;intro A4 aF sy EW aB;have abA:=zc EW.g0;have a57:=jo 2;go_wp2_with (refine abA.zdP rfl rfl rfl (cs:=[.int .i64 2,.int .i64 0,.slice none 0 0]) rfl zn rfl rfl (ye _ _ _ _ _) ?_);refine anx ?_;intro A4 aF oE uX I9;go_wp2;first|(rw[Exit.zdZ])|skip
 refine uX.result rfl rfl rfl zn rfl ?_;exact⟨rfl,zi EW.bel I9 ae⟩
def QR(m:Nat)(s:yN):Prop:=∀v,s.vol=some v->v.reads<=m/\v.writes<=m
def G7{v:Vol}(hv:v.zeq)(x:Cmd):(wV v x).1.reads<=v.reads+1/\(wV v x).1.writes<=v.writes+1:=by
 unfold wV;repeat' split
 ·exact⟨(qK hv 0 x.n x.b 0).reads,(qK hv 0 x.n x.b 0).writes⟩
 ·exact⟨(qK hv 2 x.n x.b 0).reads,(qK hv 2 x.n x.b 0).writes⟩
 ·exact⟨zaV _,zaV _⟩
 ·exact⟨zaV _,zaV _⟩
 ·exact⟨zaV _,zaV _⟩
 ·exact⟨(qK hv 3 x.n x.b _).reads,(qK hv 3 x.n x.b _).writes⟩
 ·exact⟨(qK hv 4 x.n x.key 0).reads,(qK hv 4 x.n x.key 0).writes⟩
 ·next k e =>
  obtain⟨ai,aj,ak,an,iB⟩:=Zx v k;exact⟨by rw[an];exact zaV _,by rw[iB];exact zaV _⟩
 ·exact⟨zaV _,zaV _⟩
 ·exact⟨(qK hv 6 x.n x.key 0).reads,(qK hv 6 x.n x.key 0).writes⟩
def QR.mono{m n:Nat}{s:yN}(h:QR m s)(hn:m<=n):QR n s:=λv hv=>⟨zat (h v hv).1 hn,zat (h v hv).2 hn⟩
def sq{m:Nat}{s:yN}(h:QR m s)(x:Cmd)(key:La_):QR m (kS s x key).1:=by
 unfold kS;split
 ·intro aK aL;cases aL;exact⟨zcr _,zcr _⟩
 ·exact h
def Br{m:Nat}{s:yN}(hs:s.zeq)(h:QR m s)(x:Cmd):QR (m+1) (do1 s x).1:=by
 have ag:QR (m+1) s:=h.mono (zaV _);unfold do1;split
 ·exact ag
 ·split
  ·unfold z6;split
   ·exact sq ag x _
   ·split
    ·exact ag
    ·cases hv:s.vol with
     | none=>exact ag
     | some v =>
      intro au aw;cases aw;have aM:=G7 (hs.vol v hv) x;have aM:=h v hv;exact⟨ae,ae⟩
  ·split
   ·unfold ju;split
    ·split
     ·exact ag
     ·exact ai5
    ·split
     ·exact ag
     ·cases s.nam with
      | none=>exact ag
      | some kp=>obtain⟨k,ox⟩:=kp;simp only;split<;>exact ag
   ·split
    ·unfold qe;split
     ·exact ai5
     ·split
      ·exact ag
      ·cases s.cip with
       | none=>exact ag
       | some k =>
        simp only;split
        ·exact ag
        ·split
         ·split<;>exact ag
         ·split<;>exact ag
    ·unfold kg;repeat' split
     ·exact λv hv=>ag v hv
     ·exact λv hv=>ag v hv
     ·exact ag
     ·exact ag
     ·exact ag
     ·exact sq ag x _
def mF:∀(l:List Cmd)(m:Nat)(s:yN),s.zeq->QR m s->QR (m+l.length) (doL s l).1
 | [],m,s,_,h=>h
 | x::r,m,s,hs,h=>by
  have h2:=mF r (m+1) (do1 s x).1 (Fe hs x) (Br hs h x);rw[show m+(x::r).length=m+1+r.length by rw[zaj];omega];exact h2
def dX{l:List Cmd}{j:Nat}{x:Cmd}(s:yN)(h:l[j]? = some x):doL s (l.take (j+1))=((do1 (doL s (l.take j)).1 x).1,(doL s (l.take j)).2++[(do1 (doL s (l.take j)).1 x).2]):=by rw[List.take_add_one,h];exact nL _ _ _
structure Tol where
 t:Tld
 ao:OA
 cap:Nat
def Tol.vals(x:Tol):Lb_:=[.int .i64 x.t.1,.int .i64 x.t.2.1,.slice x.ao x.t.2.2.length x.cap]
def Tol.In(x:Tol)(w:World):Prop:=x.t.2.2.length<=x.cap/\zr w x.ao (x.t.2.2.map B)
def sr(ts:List Tol):Lb_:=(ts.map Tol.vals).flatten
def Dd(ts:List Tol)(t:Tol):sr (ts++[t])=sr ts++t.vals:=by simp[sr]
def Tol.zfa(x:Tol):∀v∈x.vals,v.oneCell'=true:=by intro v aL;simp[Tol.vals] at aL;rcases aL with rfl|rfl|rfl<;>rfl
def wk{F F' D:List Nat}{w w':World}{X:World->Prop}(h:xA F w X)(he:Ext D w w')(hD:∀d∈D,d∈F)(hF:∀i∈F',i∈F\/w.heap.size<=i):xA F' w' X:=λw'' hv =>
 h w'' ⟨zat he.size hv.size,λi hi hl=>(hv.block i (λh=>(hF i h).elim hi (λh2=>by omega)) (Nat.lt_of_lt_of_le hl he.size)).trans (he.block i hl (λh=>hi (hD i h)))⟩
def Mc{w w':World}{base n size:Nat}{e:TypeId}{v:Value}{xs:Lb_}(h:w.ownsRow base e size v n xs)(he:∀g,v.ownBlock=some g->w'.heap[g]? = w.heap[g]?):w'.ownsRow base e size v n xs:=by refine⟨h.1,h.2.imp id ?_⟩;rintro⟨g,oF,oH,aL,oG,oI,oJ⟩;refine⟨g,oF,oH,aL,oG,?_,oJ⟩;rw[he g (by rw[aL];rfl)];exact oI
def yi.keep{F:List Nat}{w:World}(h:yi w)(h1:2∉F)(h2:4∉F):xA F w yi:=by
 intro A4 aw;have ai:=aw.block _ h1 h.first.lt;have aj:=aw.block _ h2 h.rows.lt;have ek:ze3 A4 2=ze3 w 2:=by unfold ze3;rw[ai]
 have iJ:ze3 A4 4=ze3 w 4:=by unfold ze3;rw[aj]
 exact⟨by rw[ek];exact ai.trans h.first,by rw[iJ];exact aj.trans h.rows⟩
def Ext.split{D:List Nat}{w w':World}(h:Ext D w w')(hD:∀d∈D,d<w.heap.size):∃w1,Below w.heap.size w w1/\w1.heap.size=w'.heap.size/\Ext D w1 w':=by
 have eg:=h.size;have hsz:(w.heap++w'.heap.extract w.heap.size w'.heap.size).size=w'.heap.size:=bq;refine⟨{ w with heap:=w.heap++w'.heap.extract w.heap.size w'.heap.size },⟨rfl,rfl,rfl,by rw[hsz];exact eg,λk hk=>?_⟩,hsz,⟨h.os,h.tape,h.output,by rw[hsz];exact zab _,λk hk hn=>?_⟩⟩
 ·show(w.heap++_)[k]? = _;rw[zcB hk]
 ·show _=(w.heap++_)[k]?;have hk:k<w'.heap.size:=by rw[<-hsz];exact hk
  by_cases aB:k<w.heap.size
  ·rw[zcB aB];exact h.block k aB hn
  ·rw[Array.getElem?_append_right ae,Array.getElem?_extract,if_pos ae];congr 1;omega
def yr.grow{F F' O D:List Nat}{w w':World}{bp hp q p:Nat}{s:yN}{ss:List Str}{vv nv cv:Value}(h:yr F O w bp s hp q p ss vv nv cv)(he:Ext D w w')(hD:∀d∈D,d∈F)(hO:∀i∈O,i∉D)(hF:∀i∈F',i∈F\/(w.heap.size<=i/\i<w'.heap.size))(hF2:∀i∈F,i∈F'):yr F' O w' bp s hp q p ss vv nv cv:=by obtain⟨A4,aF,eg,aJ⟩:=he.split (λd hd=>h.tabs.lt d (hD d hd));exact(h.wider (F':=F') (O':=O) aF (λi hi=>by rw[eg];exact hF i hi) hF2 (λi hi=>hi) (λi hi=>hF2 i (h.sub i hi))).ext aJ (λi hi=>hF2 i (hD i hi)) hO
structure Jh(F0 O0:List Nat)(w0:World)(lo:OA)(xs:List Opr)(F O:List Nat)(w:World)(j:Nat)(v:Value)(ts:List Tol):Prop where
 own:w.ownsRow w0.heap.size 35 3 v j (sr ts)
 blk:∀g,v.ownBlock=some g->g∈F/\g∉O
 outs:∀t∈ts,xA F w t.In
 ops:xA F w (λw'=>wN w' lo xs)
 zjR:∀x∈xs,yT F w x
 zlO:xA F w yi
 ext:Ext O0 w0 w
 zlP:∀i∈O,i∈O0\/w0.heap.size<=i
 zlQ:∀i∈F,i∈F0\/w0.heap.size<=i
 zl1:∀i∈F0,i∈F
 oldO:∀i∈O0,i∈O
section
variable{F0 O0 F O:List Nat}{w0 w w':World}{lo:Option Addr}{xs:List Opr}{j:Nat}{v:Value}{ts:List Tol}
def Jh.more{N:List Nat}(h:Jh F0 O0 w0 lo xs F O w j v ts)(he:Ext O w w')(hs:∀i∈O,i∈F)(hN:∀i∈N,w.heap.size<=i):Jh F0 O0 w0 lo xs (N++F) (N++O) w' j v ts:=by
 have I1:∀i∈N++F,i∈F\/w.heap.size<=i:=λi hi=>(zaC.1 hi).elim (λh=>.inr (hN i h)) .inl;have aT:=h.ext.size;refine⟨Mc h.own λg hg=>?_,λg hg=>⟨zaE _ (h.blk g hg).1,λhi=>?_⟩,λt ht=>wk (h.outs t ht) he hs I1,wk h.ops he hs I1,λx hx=>⟨wk (h.zjR x hx).keep he hs I1,(h.zjR x hx).few⟩,wk h.zlO he hs I1,h.ext.trans he h.zlP,λi hi=>?_,λi hi=>?_,λi hi=>zaE _ (h.zl1 i hi),λi hi=>zaE _ (h.oldO i hi)⟩
 ·exact he.block g (h.own.lt g hg).2 (h.blk g hg).2
 ·rcases zaC.1 hi with hi|hi
  ·have ag:=hN g hi;have aM:=(h.own.lt g hg).2;omega
  ·exact(h.blk g hg).2 hi
 ·rcases zaC.1 hi with hi|hi
  ·have ag:=hN i hi;right;omega
  ·exact h.zlP i hi
 ·rcases zaC.1 hi with hi|hi
  ·have ag:=hN i hi;right;omega
  ·exact h.zlQ i hi
def Jh.below(h:Jh F0 O0 w0 lo xs F O w j v ts)(hb:Below w.heap.size w w')(hs:∀i∈O,i∈F):Jh F0 O0 w0 lo xs F O w' j v ts:=h.more (N:=[]) (Ext.of_below hb) hs (λi hi=>by cases hi)
def Jh.app{g k cap:Nat}{t:Tol}{bp hp q p:Nat}{s:yN}{ss:List Str}{vv nv cv:Value}(h:Jh F0 O0 w0 lo xs F O w j v ts)(hb:yr F O w bp s hp q p ss vv nv cv)(ht:xA F w t.In)(hown:w'.ownsRow w0.heap.size 35 3 (.slice (some ⟨g,0,none⟩) k cap) k (sr ts++t.vals))(hg:w.grownBy w' v.ownBlock)(hgg:v.ownBlock=some g\/g=w.heap.size)(hlt:g<w'.heap.size):Jh F0 O0 w0 lo xs (g::F) O w' k (.slice (some ⟨g,0,none⟩) k cap) (ts++[t])/\yr (g::F) O w' bp s hp q p ss vv nv cv:=by
 have aJ:Ext v.ownBlock.toList w w':=⟨hg.os,hg.tape,hg.output,hg.size,λk hk hn=>hg.block k hk (λe=>hn (by rw[<-e];simp))⟩
 have E9:∀d∈v.ownBlock.toList,d∈F:=λd hd=>(h.blk d (by simpa using hd)).1;have adK:∀i∈O,i∉v.ownBlock.toList:=λi hi hd=>(h.blk i (by simpa using hd)).2 hi;have I1:∀i∈g::F,i∈F\/w.heap.size<=i:=λi hi=>by
  rcases zau.1 hi with rfl|hi
  ·exact hgg.imp (λe=>(h.blk _ e).1) (λe=>zdi e.symm)
  ·exact .inl hi
 have aT:=h.ext.size;have adL:g∉O:=λhi=>hgg.elim (λe=>(h.blk _ e).2 hi) (λe=>by have:=hb.tabs.lt g (hb.sub g hi);omega);have Tw:w0.heap.size<=g:=hgg.elim (λe=>(h.own.lt g e).1) (λe=>by omega);refine⟨⟨by rw[Dd];exact hown,λg' hg'=>?_,λt' ht'=>?_,wk h.ops aJ E9 I1,λx hx=>⟨wk (h.zjR x hx).keep aJ E9 I1,(h.zjR x hx).few⟩,wk h.zlO aJ E9 I1,h.ext.trans aJ (λi hi=>.inr (h.own.lt i (by simpa using hi)).1),h.zlP,λi hi=>?_,λi hi=>zaN _ (h.zl1 i hi),h.oldO⟩,hb.grow aJ E9 adK (λi hi=>?_) (λi hi=>zaN _ hi)⟩
 ·cases hg';exact⟨ab,adL⟩
 ·rcases zaC.1 ht' with ht'|ht'
  ·exact wk (h.outs t' ht') aJ E9 I1
  ·simp at ht';subst ht';exact wk ht aJ E9 I1
 ·rcases zau.1 hi with rfl|hi
  ·exact .inr Tw
  ·exact h.zlQ i hi
 ·rcases zau.1 hi with rfl|hi
  ·exact hgg.imp (λe=>(h.blk _ e).1) (λe=>⟨zdi e.symm,hlt⟩)
  ·exact .inl hi
end
variable{F O:List Nat}{w:World}{bp d1 z d2:Nat}{s:yN}{xs:List Opr}{x:Cmd}{ao:OA}
def yq.keep{N:List Nat}{base:Nat}{t:Tol}(h:yq N base w t.ao t.cap t.t.2.2)(hF:∀i∈F,i∈N\/i<base):xA F w t.In:=by
 intro A4 aw;refine⟨h.le,?_⟩;cases e:t.t.2.2 with
 | nil=>exact zr.nil _ _
 | cons x r =>
  have aR:=h.lies;rw[e] at aR;exact Q5 aR (λa ha hi=>by
   have ag:=h.fresh (by rw[e];simp) a ha;rcases hF _ hi with h3|h3
   ·exact ag.2 h3
   ·omega) A4 aw
def dY:(pgm.info? 35).map (λi=>(i.zero,i.size,i.bytes))=some (some (.agg yy.toArray),3,40):=e0
def su:(pgm.info? 35).map (λi=>(i.zero,i.size))=some (some (.agg yy.toArray),3):=e0
abbrev vG(xs:List Opr):List Cmd:=xs.map (·.c)
abbrev Xd(bp:Nat)(lo:OA)(n lc:Nat)(v:Value)(us:Nat->Value):Act:={ tmps:=#[.pointer (some ⟨bp,0,none⟩),.slice lo n lc,us 2,us 3,us 4,v,us 6,us 7,us 8,us 9,us 10,us 11,us 12,us 13,us 14,us 15,us 16,us 17,us 18,us 19,us 20,us 21],defers:=[] }
def sw(F O:List Nat)(w:World)(bp:Nat)(s:yN)(lo:OA)(n lc:Nat)(xs:List Opr)(x:Act)(wr:World):Prop :=
 ∃(us:Nat->Value)(F' O':List Nat)(j:Nat)(v:Value)(ts:List Tol),x=Xd bp lo n lc v us/\j<=n/\Hid (Jh F O w lo xs F' O' wr j v ts)/\Hid (xi F' O' wr bp (doL s ((vG xs).take j)).1)/\Hid (ts.map Tol.t=(doL s ((vG xs).take j)).2)
def sw.intro{lo:OA}{n lc:Nat}{x:Act}{wr:World}(F' O':List Nat)(j:Nat)(v:Value)(ts:List Tol)(hx:x=Xd bp lo n lc v (λi=>x.tmps.getD i undef))(hj:j<=n)(h1:Jh F O w lo xs F' O' wr j v ts)(h2:xi F' O' wr bp (doL s ((vG xs).take j)).1)(h3:ts.map Tol.t=(doL s ((vG xs).take j)).2):sw F O w bp s lo n lc xs x wr:=⟨_,F',O',j,v,ts,hx,hj,h1,h2,h3⟩
def RanB(F O:List Nat)(w:World)(bp:Nat)(s:yN)(lo:OA)(xs:List Opr)(e:Ending)(w':World):Prop :=
 ∃v F' O' ts,e=.returned v/\Jh F O w lo xs F' O' w' xs.length v ts/\xi F' O' w' bp (doL s (vG xs)).1/\ts.map Tol.t=(doL s (vG xs)).2
def Bt(h:xi F O w bp s)(m:Nat)(hm:QR m s)(lo:OA)(n lc:Nat)(xs:List Opr)(hn:xs.length=n)(hmn:m+n<=1000)(hops:xA F w (λw'=>wN w' lo xs))(hc:∀x∈xs,yT F w x)(hg:xA F w yi):Ca_ 11 #[pa_ bp,.slice lo n lc] w (RanB F O w bp s lo xs):=by
 obtain⟨aS,aO,aT,aU,aV⟩:=info_parts dY;refine aeW ?_;intro NK;have Nl:=zc hn;have aby:s.zeq:=by obtain⟨_,_,_,_,_,_,_,hi⟩:=h;exact hi.zei
 have aab:∀i∈O,i∈F:=by obtain⟨_,_,_,_,_,_,_,hi⟩:=h;exact hi.sub
 have PK:=zc (And.intro hm aby);have A6:=zc h;have adM:=ha_ (Jh F O w lo xs F O w 0 (.slice none 0 0) []) ⟨vm _ _ _ _,λg hg=>(by cases hg),λt ht=>(by cases ht),hops,hc,hg,Ext.refl _ _,λi hi=>.inl hi,λi hi=>.inl hi,λi hi=>hi,λi hi=>hi⟩;clear h hm hn hops hc hg aO aT aU aV aby aab;go_enter func11,ntmps11;go_wp2_with fail;refine zN 0 (sw F O w bp s lo n lc xs) (λx _=>n-X3 (x.tmps.getD 5 undef)) rfl ?_ ?_
 ·simp only[qb];go_wp2;exact sw.intro F O 0 _ [] rfl (zcr _) adM A6 rfl
 ·rintro x oU⟨NU,a2h,acJ,j,v,a6k,rfl,aA,uY,uX,A3⟩;obtain⟨S0,acy,ai,_,_,_⟩:=zz uY.own;subst ai;by_cases aB:j<n
  ·refine art ?_;intro x Ac;obtain⟨NP,a83,adN,rfl,a7p,eI⟩:=uY.ops.self.at Ac;have adO:=ha_ ((vG xs)[j]? = some x.c) (by simp[Ac]);have EZ:=zc (uY.zjR x (List.mem_of_getElem? Ac));have Nu:=zc eI;have A0:=zc x.zew;have eA:((j:Int)==(n:Int))=false:=AA;have adP:=ha_ (XM (doL s ((vG xs).take j)).1) (λv hv=>by
    have ag:=mF ((vG xs).take j) m s PK.2 PK.1 v hv;have ag:((vG xs).take j).length<=n:=by rw[List.length_take,zaa,Nl.o];omega
    omega)
   clear eI Ac NP;simp only[Xd];go_wp2_with (refine wpList_load_mid rfl 38 (.tmp 17) rfl a83 (adN+j*7) rfl _ _ Nu underlying38 rfl (by rw[A0.o];exact qM.2) ?_);go_wp2_with fail;refine(mE uX adP EZ uY.zlO.self).mono ?_;rintro ai A4⟨Ny,oF,adH,rfl,abB,aF,aJ,acg⟩;have adQ:=uX.o;obtain⟨eE,ey,ox,a6h,a4F,a2v,abw,abr⟩:=adQ;have Ok:=ha_ (xA (adH++a2h) A4 (Tol.mk (do1 (doL s ((vG xs).take j)).1 x.c).2 Ny oF).In) (yq.keep abB (λi hi=>(zaC.1 hi).imp id (λh=>abr.tabs.lt i h)));have a7j:=zc (uY.more aJ abr.sub acg);have EB:=zc aF;have Tb:=zc (dX s adO);have Pr:=zc uY;obtain⟨An,eI⟩:=n_ (do1 (doL s ((vG xs).take j)).1 x.c);rw[<-eI] at EB Ok Tb |-;obtain⟨iD,adR⟩:=n_ (Tol.mk An.2 Ny oF);have a6n:=ha_ (iD.t=An.2/\iD.vals=[.int .i64 An.2.1,.int .i64 An.2.2.1,.slice Ny An.2.2.2.length oF]/\iD.vals.length=3) (by rw[adR];exact⟨rfl,rfl,rfl⟩);rw[<-adR] at Ok;clear abB aJ acg abr eI adR;go_wp2_with (refine qL 29 35 3 1 _ [iD.vals] rfl rfl (by rw[a6n.2.1];rfl) underlying29 su rfl ae rfl ae ae (by intro v hv;simp at hv;rw[hv];exact a6n.2.2) ?_);intro Ev aF ED;obtain⟨eE,ey,ox,a6h,a4F,a2v,abw,adS⟩:=EB;have adT:=zc (a7j.below ED adS.sub);have EB:=zc (adS.below ED);have Ol:=zc (Ok.below ED);have IM:=ha_ (zr Ev (some ⟨A4.heap.size,0,none⟩) iD.vals) k5;have aT:=adT.ext.size;clear ED adS;go_wp2_with (at_builtin;refine wpList_append_lies _ rfl (.tmp 12) (.tmp 20) 29 rfl w.heap.size 35 aS (.agg yy.toArray) 3 40 underlying29 NK.1 NK.2.1 NK.2.2.1 NK.2.2.2 rfl bd _ j (sr a6k) rfl adT.own ⟨A4.heap.size,0,none⟩ 1 1 iD.vals rfl a6n.2.2 IM.news iD.zfa ae ew ae aT _ rfl ?_);intro ie oF A4 OH oG ab4 a0k;obtain⟨Em,aG⟩:=adT.app EB Ol OH oG ab4 a0k;have a7j:=zc Em;have EB:=zc aG;clear OH oG ab4 a0k Em aG;go_wp2;refine wp_goto ⟨rfl,sw.intro _ _ (j+1) _ (a6k++[iD]) ?_ ae a7j (by rw[Tb.o];exact⟨_,_,_,_,_,_,_,EB⟩) (by rw[Tb.o,List.map_append,A3.o];simp[a6n.1]),?_⟩
   ·first|rfl|(simp only[Xd];push_cast;rfl)
   ·simp[X3];omega
  ·obtain rfl:j=n:=ae;have eA:((j:Int)==(j:Int))=true:=ab;have ai:(vG xs).take j=vG xs:=List.take_of_length_le (by rw[zaa,Nl.o];exact zab _);rw[ai] at uX A3;have hn:=Nl.o;simp only[Xd];go_wp2;first|(rw[Exit.zdZ];go_ret)|go_ret
   exact⟨_,a2h,acJ,a6k,rfl,by rw[hn];exact uY,uX,A3⟩
def ZV:Lb_:=[.int .i64 0,.int .i64 0,.int .i64 0,.int .i64 0,.slice none 0 0,.slice none 0 0,.string (str [])]
def mG:(pgm.info? 38).map (·.zero)=some (some (.agg ZV.toArray)):=e0
def mH:(pgm.info? 38).map (λi=>(i.zero,i.size,i.bytes))=some (some (.agg ZV.toArray),7,96):=e0
def cX:(pgm.info? 38).map (λi=>(i.zero,i.size))=some (some (.agg ZV.toArray),7):=e0
def XN:Row pgm 40 7:=⟨e0,e0⟩
def dZ:(pgm.info? 40).map (·.zero)=some (some (.agg ZV.toArray)):=e0
def sx{q p:Nat}(h:Tab w q p)(hq:q∉F)(hp:p∉F):xA F w (λw'=>Tab w' q p):=λw' hu=>⟨h.boxes.up hu hp,h.tab.up hu hq⟩
def Md(q p:Nat)(w:World)(ht:Tab w q p):Ca_ 18 #[pa_ q] w λe w'=>∃bp hp,e=.returned (pa_ bp)/\yr [bp,hp] [bp,hp] w' bp zee hp q p (zah 8 WI) (.pointer none) (.pointer none) (.pointer none)/\(w.heap.size<=bp/\w.heap.size<=hp)/\Below w.heap.size w w':=by
 have A3:=zc ht;clear ht;go_enter func18,ntmps18;go_wp2_with fail;refine(ry q p _ A3).mono ?_;rintro e A4⟨hp,rfl,oI,Tw,Eu⟩;have PW:=zc oI;have uX:=zc Eu;clear oI Eu;go_wp2_with (refine zh 62 _ (qd hp q (.pointer none) (.pointer none) (.pointer none)) _ rfl rfl rfl rfl ?_);intro Ev aF Et;have aT:=uX.size;have ah:=A3.tab.lt;have ah:=A3.boxes.lt;have NK:=ha_ (yr [A4.heap.size,hp] [A4.heap.size,hp] Ev A4.heap.size zee hp q p (zah 8 WI) (.pointer none) (.pointer none) (.pointer none)) (by
  have ag:=PW.blk.below Et PW.blk.lt;have aR:=aF.lt;have Ec:=ag.lt;refine⟨λi hi=>hi,⟨ab,ab⟩,⟨sx (PW.tab.below Et (zab _)) ?_ ?_,?_,?_,?_⟩,aF,ag,rfl,λt ht=>?_,λt ht _=>?_,rfl,rfl,rfl,rfl,uS⟩
  ·simp;omega
  ·simp;omega
  ·simp;omega
  ·simp;omega
  ·intro i hi;exact ai6
  ·obtain rfl:=zbJ ht;exact λw' _=>mq w'
  ·obtain rfl:=zbJ ht;rfl)
 exact amO
def G8(w:World)(hg:zeT w):Ca_ 10 #[] w λe w'=>∃bp hp,e=.returned (pa_ bp)/\xi [bp,hp] [bp,hp] w' bp zee/\(w.heap.size<=bp/\w.heap.size<=hp)/\Below w.heap.size w w':=by have M8:=zc hg;clear hg;go_enter func10,ntmps10;go_wp2_with fail;refine(U1 _).mono ?_;rintro e A4⟨ox,rfl,hp,aF,sy⟩;have uX:=zc aF;have A0:=zc sy;clear hp;go_wp2_with fail;refine(Fm ox a0s _ j4 uX (M8.below A0)).mono ?_;rintro e A4⟨ey,rfl,eA,aF,Et⟩;have A3:=ha_ (Tab A4 ey ox) ⟨uX.below Et uX.lt,aF⟩;have A0:=zc (A0.trans (Et.mono A0.size));clear Et eA;go_wp2_with fail;refine(Md ey ox _ A3).mono ?_;rintro e A4⟨bp,hp,rfl,aO,Tw,Ey⟩;have aT:=A0.size;have NK:=zc aO;have A0:=zc (A0.trans (Ey.mono A0.size));clear aO Ey;go_wp2;go_ret;exact⟨bp,hp,rfl,⟨_,_,_,_,_,_,_,NK⟩,⟨ae,ae⟩,A0⟩
def MZ(s:yN):Value:=match s.vol with
 | none=>.complex .f64 0 0
 | some v=>yQ v
def MH(h:xi F O w bp s):C_e 16 #[pa_ bp] w (MZ s):=by
 obtain⟨eE,ey,ox,a6h,a4F,a2v,abw,aO⟩:=h;have Np:=aO.blk.cell 2 a4F rfl;have aL:=aO.vol;obtain⟨An,eI⟩:=n_ (MZ s);rw[<-eI];have uY:=zc eI;clear aO eI;go_enter func16,ntmps16;go_wp2_with fail;cases e:s.vol with
 | none =>
  rw[e] at aL;cases aL;refine(Nf _).mono ?_;rintro e A4⟨rfl,rfl⟩;have ai:An=.complex .f64 0 0:=by rw[uY.o];unfold MZ;rw[e]
  subst ai;exact aeJ
 | some v =>
  rw[e] at aL;obtain⟨abu,aI,rfl,aH,_,_⟩:=aL;obtain⟨aaj,aak,a5o,_⟩:=aH;refine(Nz a5o).mono ?_;rintro e A4⟨rfl,rfl⟩;have ai:yQ v=An:=by rw[uY.o];unfold MZ;rw[e]
  rw[ai];clear a5o;exact aeJ
def Nr(w:World):C_e 16 #[.pointer none] w (.complex .f64 0 0):=by go_enter func16,ntmps16;exact aeJ
def Bu(x:Opr)(w:World):C_b 15 #[.agg x.vals.toArray] w (.agg x.vals.toArray):=by refine aeC ?_;intro EW;go_enter func15,ntmps15;go_wp2_with (refine zh 40 _ (x.vals) _ rfl rfl rfl rfl ?_);refine am7 ?_;intro A4 aF sy EW aB;go_wp2_with (refine zf 38 ZV _ rfl rfl mG rfl ?_);refine am7 ?_;intro A4 aF sy EW aB;have abz:=zc EW.g1;have abA:=zc EW.g0;have iy:=abz.cell 0 _ rfl;have iy:=abz.cell 1 _ rfl;have iy:=abz.cell 2 _ rfl;have iy:=abz.cell 3 _ rfl;have iy:=abz.cell 4 _ rfl;have iy:=abz.cell 5 _ rfl;have iy:=abz.cell 6 _ rfl;go_wp2_with (refine abA.zdP rfl rfl rfl (cs:=x.vals) rfl qM rfl rfl x.zfa ?_);refine anx ?_;intro A4 aF oE uX I9;go_wp2;refine uX.result rfl rfl rfl qM rfl ?_;exact⟨rfl,zi EW.bel I9 ae⟩
def MS(r:Tld)(a1 a2:OA)(k1 k2:Nat)(w:World)(h1:zr w a1 (r.2.2.map B))(h2:zr w a2 (r.2.2.map B)):C_b 17 #[.agg #[.int .i64 r.1,.int .i64 r.2.1,.slice a1 r.2.2.length k1],.agg #[.int .i64 r.1,.int .i64 r.2.1,.slice a2 r.2.2.length k2]] w (.bool true):=by refine aeC ?_;intro EW;have A6:=zc h1;have Pw:=zc h2;obtain⟨ai,Ep,ax⟩:=r;simp only at A6 Pw |-;clear h1 h2;go_enter func17,ntmps17;go_wp2_with (refine zh 35 _ [.int .i64 ai,.int .i64 Ep,.slice a1 ax.length k1] _ rfl rfl rfl rfl ?_);refine am7 ?_;intro A4 aF sy EW aB;go_wp2_with (refine zh 35 _ [.int .i64 ai,.int .i64 Ep,.slice a2 ax.length k2] _ rfl rfl rfl rfl ?_);refine am7 ?_;intro A4 aF sy EW aB;have iy:=EW.g1.cell 0 _ rfl;have iy:=EW.g1.cell 1 _ rfl;have iy:=EW.g1.cell 2 _ rfl;have aN:=EW.g0.cell 0 _ rfl;have aN:=EW.g0.cell 1 _ rfl;have aN:=EW.g0.cell 2 _ rfl;have ej:=ZC (P:=pgm) A4 23 9 5 underlying23 underlying5 underlying9 a1 ax.length k1 ax rfl (A6.below EW.bel);have ej:=ZC (P:=pgm) A4 23 9 5 underlying23 underlying5 underlying9 a2 ax.length k2 ax rfl (Pw.below EW.bel);go_wp2;go_ret;exact⟨rfl,EW.bel⟩
def zjS:List Cmd:=[⟨3,0,0,0,[],[],[]⟩,⟨19,0,0,0,[],[],[]⟩,⟨15,0,0,0,door,zg 32,[]⟩,⟨18,1,16,2,door,[],[]⟩,⟨3,0,1,0,[],[],[]⟩]
def Me(h:x.kind<1\/18<x.kind):do1 s x=(s,(22,0,[])):=if_pos h
def gC(s:yN)(h1:1<=x.kind)(h2:x.kind<=8):do1 s x=z6 s x:=by unfold do1;rw[if_neg (by omega),if_pos h2]
def Bv(s:yN)(h1:15<=x.kind)(h2:x.kind<=18):do1 s x=kg s x:=by unfold do1;rw[if_neg (by omega),if_neg (by omega),if_neg (by omega),if_neg (by omega)]
def Mf(h1:2<=x.kind)(h2:x.kind<5):do1 zee x=(zee,(2,0,[])):=by rw[gC _ ae ae];unfold z6;rw[if_neg ae,if_neg ae];rfl
def UG:(doL zee zjS).2=[(2,0,[]),(22,0,[]),(0,0,[]),(0,0,[]),(0,0,zg 16)]:=by
 have ag:Kc 0 door (zg 32)=0:=D7 (n:=0) bd bd bd (by rw[ze];decide) (by rw[ze];decide);have a2x:(Qt KW 0 door (zg 32))[0]? = some (XV 0 door (zg 32)):=by
  unfold Qt;rw[if_pos ag];rfl
 have eP:qW door (Qt KW 0 door (zg 32))=(zg 32,0,0):=by
  unfold qW;rw[if_neg bd,nJ (k:=0) a2x (λi hi=>absurd hi (Nat.not_lt_zero i))];rfl
 have aN:do1 zee ⟨3,0,0,0,[],[],[]⟩=(zee,(2,0,[])):=Mf bd bd;have eK:do1 zee ⟨19,0,0,0,[],[],[]⟩=(zee,(22,0,[])):=Me bd;have Ed:do1 zee ⟨15,0,0,0,door,zg 32,[]⟩=({ zee with hdr:=Qt KW 0 door (zg 32) },(0,0,[])):=by
  rw[Bv _ bd bd];unfold kg;rw[if_pos rfl];simp only;rw[show zee.hdr=KW from rfl,ag]
 generalize ae6:Qt KW 0 door (zg 32)=H at*;have hw:vT 1 16 2 (zg 32).length=0:=by rw[ze];rfl
 have a0c:kS { zee with hdr:=H } ⟨18,1,16,2,door,[],[]⟩ (zg 32)=({ zee with hdr:=H,vol:=some (zeA 1 16 2 (zg 32)) },0):=if_pos hw;have a4S:do1 { zee with hdr:=H } ⟨18,1,16,2,door,[],[]⟩=({ zee with hdr:=H,vol:=some (zeA 1 16 2 (zg 32)) },(0,0,[])):=by
  rw[Bv _ bd bd];unfold kg;rw[if_neg bd,if_neg bd,if_neg bd];simp only[eP,a0c];rfl
 have eg:=nK (alg:=1) (size:=16) (zdO:=2) (n:=1) (key:=zg 32) bd bd;have ae7:(zeA 1 16 2 (zg 32)).zdO=2:=rfl;have a4T:(do1 { zee with hdr:=H,vol:=some (zeA 1 16 2 (zg 32)) } ⟨3,0,1,0,[],[],[]⟩).2=(0,0,zg 16):=by
  generalize zeA 1 16 2 (zg 32)=Tz at*;have oI:Tz.has 1:=by unfold Vol.has;rw[ae7];exact⟨by decide,by decide⟩
  rw[gC _ bd bd];unfold z6;rw[if_neg bd,if_neg bd];simp only;unfold wV;rw[if_neg bd,if_pos rfl,if_pos oI];simp only;rw[show(1:Int).toNat=1 from rfl,eg]
 simp only[zjS,doL,aN,eK,Ed,a4S,a4T]
def Ji{xs:Lb_}(h:zr w ao xs)(hf:xs≠[]->∀a,ao=some a->a.block∉F):xA F w (λw'=>zr w' ao xs):=by
 cases xs with
 | nil=>exact λw' _=>zr.nil _ _
 | cons x r=>exact Q5 h (hf ab)
def sA(F:List Nat)(x:Opr):Prop:=(x.c.key≠[]->∀a,x.ko=some a->a.block∉F)/\(x.c.b≠[]->∀a,x.bo=some a->a.block∉F)
def WZ{x:Opr}(h:x.In w)(ha:sA F x):xA F w (λw'=>x.In w'):=λw' hu =>
 ⟨h.kind,h.a,h.n,h.m,Ji h.key (λh0=>ha.1 (λe=>h0 (by rw[e];rfl))) w' hu,Ji h.b (λh0=>ha.2 (λe=>h0 (by rw[e];rfl))) w' hu,h.kc,h.bc,h.name⟩
def cY(h:wN w ao xs)(h1:xs≠[]->∀a,ao=some a->a.block∉F)(h2:∀x∈xs,sA F x):xA F w (λw'=>wN w' ao xs):=λw' hu =>
 ⟨⟨h.rows.each,Ji h.rows.lies (λh0=>h1 (λe=>h0 (by rw[e];rfl))) w' hu⟩,λx hx=>WZ (h.each x hx) (h2 x hx) w' hu⟩
def gD{x:Opr}(h:x.In w)(hF:∀i∈F,w.heap.size<=i):sA F x:=by
 refine⟨λh0 a ha hi=>?_,λh0 a ha hi=>?_⟩
 ·have aR:=h.key;cases e:x.c.key with
  | nil=>exact h0 e
  | cons y r =>
   exact agB
 ·have aR:=h.b;cases e:x.c.b with
  | nil=>exact h0 e
  | cons y r =>
   exact agB
def Zz{g:Nat}{xs:Lb_}(h:zr w (some ⟨g,0,none⟩) xs)(j:Nat){u:Value}(hj:xs[j]? = some u):w.cell? ⟨g,j,none⟩=some u:=by
 obtain⟨ax,ay,ai,az⟩:=h j u hj;cases ai
 rwa [Nat.zero_add] at az
def Mg{ts:List Tol}{a b c d e:Tld}(h:ts.map Tol.t=[a,b,c,d,e]):∃T0 T1 T2 T3 T4,ts=[T0,T1,T2,T3,T4]/\T0.t=a/\T1.t=b/\T2.t=c/\T3.t=d/\T4.t=e:=by
 match ts,h with
 | [T0,T1,T2,T3,T4],h =>
  simp at h;exact⟨T0,T1,T2,T3,T4,rfl,h.1,h.2.1,h.2.2.1,h.2.2.2.1,h.2.2.2.2⟩
def Df:pgm.built 38 [(0,.int .i64 3)]=some #[.int .i64 3,.int .i64 0,.int .i64 0,.int .i64 0,.slice none 0 0,.slice none 0 0,.string ⟨#[]⟩]:=e0
def Dg:pgm.built 38 [(0,.int .i64 19)]=some #[.int .i64 19,.int .i64 0,.int .i64 0,.int .i64 0,.slice none 0 0,.slice none 0 0,.string ⟨#[]⟩]:=e0
def Dh(a b:Nat):pgm.built 38 [(0,.int .i64 15),(4,.slice (some ⟨a,0,none⟩) 4 4),(5,.slice (some ⟨b,0,none⟩) 32 32)]=some #[.int .i64 15,.int .i64 0,.int .i64 0,.int .i64 0,.slice (some ⟨a,0,none⟩) 4 4,.slice (some ⟨b,0,none⟩) 32 32,.string ⟨#[]⟩]:=e0
def Di(a:Nat):pgm.built 38 [(0,.int .i64 18),(1,.int .i64 1),(2,.int .i64 16),(3,.int .i64 2),(4,.slice (some ⟨a,0,none⟩) 4 4)]=some #[.int .i64 18,.int .i64 1,.int .i64 16,.int .i64 2,.slice (some ⟨a,0,none⟩) 4 4,.slice none 0 0,.string ⟨#[]⟩]:=e0
def Dj:pgm.built 38 [(0,.int .i64 3),(2,.int .i64 1)]=some #[.int .i64 3,.int .i64 0,.int .i64 1,.int .i64 0,.slice none 0 0,.slice none 0 0,.string ⟨#[]⟩]:=e0
def KE(d1 z d2:Nat):List Opr:=[⟨⟨3,0,0,0,[],[],[]⟩,none,0,none,0⟩,⟨⟨19,0,0,0,[],[],[]⟩,none,0,none,0⟩,⟨⟨15,0,0,0,door,zg 32,[]⟩,some ⟨d1,0,none⟩,4,some ⟨z,0,none⟩,32⟩,⟨⟨18,1,16,2,door,[],[]⟩,some ⟨d2,0,none⟩,4,none,0⟩,⟨⟨3,0,1,0,[],[],[]⟩,none,0,none,0⟩]
def xe(n:Int)(h0:0<=n)(h1:n<=100):a05 n:=⟨ae,ae⟩
def Hb(h1:zr w (some ⟨d1,0,none⟩) (door.map B))(h2:zr w (some ⟨z,0,none⟩) ((zg 32).map B))(h3:zr w (some ⟨d2,0,none⟩) (door.map B)):∀x∈KE d1 z d2,x.In w:=by
 intro x aH;have eh:(0:Nat)<=maxLen/\4<=maxLen/\32<=maxLen:=ew;simp only[KE,zau,zbr,or_false] at aH;rcases aH with rfl|rfl|rfl|rfl|rfl
 ·exact⟨xe 3 bd bd,xe 0 bd bd,xe 0 bd bd,xe 0 bd bd,zr.nil _ _,zr.nil _ _,⟨zab _,eh.1⟩,⟨zab _,trivial⟩,eh.1⟩
 ·exact⟨xe 19 bd bd,xe 0 bd bd,xe 0 bd bd,xe 0 bd bd,zr.nil _ _,zr.nil _ _,⟨zab _,eh.1⟩,⟨zab _,trivial⟩,eh.1⟩
 ·exact⟨xe 15 bd bd,xe 0 bd bd,xe 0 bd bd,xe 0 bd bd,h1,h2,⟨zab _,eh.2.1⟩,⟨zab _,trivial⟩,eh.1⟩
 ·exact⟨xe 18 bd bd,xe 1 bd bd,xe 16 bd bd,xe 2 bd bd,h3,zr.nil _ _,⟨zab _,eh.2.1⟩,⟨zab _,trivial⟩,eh.1⟩
 ·exact⟨xe 3 bd bd,xe 0 bd bd,xe 1 bd bd,xe 0 bd bd,zr.nil _ _,zr.nil _ _,⟨zab _,eh.1⟩,⟨zab _,trivial⟩,eh.1⟩
def WB(h:d1∉F/\z∉F/\d2∉F):∀x∈KE d1 z d2,sA F x:=by
 intro x aH;simp only[KE,zau,zbr,or_false] at aH;rcases aH with rfl|rfl|rfl|rfl|rfl
 ·exact ahZ
 ·exact ahZ
 ·exact⟨λ_ a ha=>(by cases ha;exact h.1),λ_ a ha=>by cases ha;exact h.2.1⟩
 ·exact⟨λ_ a ha=>(by cases ha;exact h.2.2),λ_ a ha=>by cases ha⟩
 ·exact ahZ
def Dk:∀x∈KE d1 z d2,x.c.key.length<=1000/\x.c.b.length<=1000/\x.c.name.length<=1000:=by intro x aH;simp only[KE,zau,zbr,or_false] at aH;rcases aH with rfl|rfl|rfl|rfl|rfl<;>simp[door,ze]
def gE(w:World)(hg:zeT w)(hbg:yi w):C_b 14 #[] w (.bool true):=by
 have M8:=zc hg;have ae8:=zc hbg;clear hg hbg;go_enter func14,ntmps14;go_wp2_with fail;refine(G8 _ M8).mono ?_;rintro ai A4⟨a4y,eE,rfl,TJ,Tw,sy⟩;refine ajJ TJ sy Tw ?_;intro ae9 uX aea;have Pk:=ha_ (a4y<A4.heap.size/\eE<A4.heap.size) (by obtain⟨_,_,_,_,_,_,_,hi⟩:=TJ;exact⟨hi.tabs.lt _ (by simp),hi.tabs.lt _ (by simp)⟩);clear TJ Tw;have a1B:=CU;have ax:=Df;have om:=Dg;have oq:=Dh;have ot:=Di;have ov:=Dj;go_wp2_with (at_make;refine kW 23 5 (.int .u8 0) 1 32 rfl rfl rfl rfl underlying23 z5 rfl rfl rfl ae ew ?_);intro Ev aF Ey;generalize Am:A4.alloc (.cells #[.int .u8 100,.int .u8 111,.int .u8 111,.int .u8 114] 5 (4,5))=IX at aF Ey |-;have aT:A4.heap.size+1=IX.heap.size:=by rw[<-Am];simp
 rw[aT] at aF Ey |-;have Ih:=ha_ (zr IX (some ⟨A4.heap.size,0,none⟩) (door.map B)) (by rw[<-Am];exact gl A4 [.int .u8 100,.int .u8 111,.int .u8 111,.int .u8 114] 5 (4,5));have a1L:=ha_ (Below A4.heap.size A4 IX) (by rw[<-Am];exact zu A4 _);clear Am;have Ts:=ha_ (zr Ev (some ⟨IX.heap.size,0,none⟩) ((zg 32).map B)) aF.lies;have aR:=aF.lt;have a7b:=zc Ey;have aeb:=zc (Ih.below a7b);clear aF Ey;go_wp2_with (refine qL 31 38 7 5 _ ((KE A4.heap.size IX.heap.size Ev.heap.size).map Opr.vals) rfl rfl rfl underlying31 cX rfl ae rfl ae ae EU ?_);intro MF aF M6;generalize Am:Ev.alloc (.cells #[.int .u8 100,.int .u8 111,.int .u8 111,.int .u8 114] 5 (4,5))=Na at aF M6 |-;have aT:Ev.heap.size+1=Na.heap.size:=by rw[<-Am];simp
 try rw[aT] at aF M6 |-
 have Ih:=ha_ (zr Na (some ⟨Ev.heap.size,0,none⟩) (door.map B)) (by rw[<-Am];exact gl Ev [.int .u8 100,.int .u8 111,.int .u8 111,.int .u8 114] 5 (4,5));have aec:=ha_ (Below Ev.heap.size Ev Na) (by rw[<-Am];exact zu Ev _);have aeb:=zc (aeb.below aec);have Ts:=zc (Ts.below aec);clear Am;have aR:=aF.lt;have abq:=ha_ (wN MF (some ⟨Na.heap.size,0,none⟩) (KE A4.heap.size IX.heap.size Ev.heap.size)) ⟨⟨EU,aF.lies⟩,Hb (aeb.below M6) (Ts.below M6) (Ih.below M6)⟩;have aed:=zc M6;have aee:=ha_ (Below A4.heap.size A4 MF) (a1L.trans ((a7b.trans ((aec.trans (aed.mono ae)).mono ae)).mono ae));have aT:=a7b.size;clear aF M6 ax om oq ot ov a1B;generalize ah:A4.heap.size=aN at*;generalize aef:IX.heap.size=z at*;generalize Oq:Ev.heap.size=eK at*;generalize Oq:Na.heap.size=Ed at*;have Pk:=zc Pk.o;have aD:aN∉[a4y,eE]/\z∉[a4y,eE]/\eK∉[a4y,eE]:=by have:=Pk.o;simp;omega
 have EO:Ed∉[a4y,eE]:=by have:=Pk.o;simp;omega
 have aeg:=zc (Bt (s:=zee) (w:=MF) (by obtain⟨_,_,_,_,_,_,_,hi⟩:=ae9;exact⟨_,_,_,_,_,_,_,hi.below (by rw[ah];exact aee)⟩) 0 (λv hv=>by cases hv) (some ⟨Ed,0,none⟩) 5 5 (KE aN z eK) rfl ae (cY abq (λ_ a ha=>by cases ha;exact EO) (WB aD)) (λx hx=>⟨WZ (abq.each x hx) (WB aD x hx),Dk x hx⟩) (((ae8.below uX).below (by rw[ah];exact aee)).keep (by have:=aea.o;have:=ae8.first.lt;simp;omega) (by have:=aea.o;have:=ae8.rows.lt;simp;omega)));clear aD EO;go_wp2_with fail;refine aeg.mono ?_;rintro ai w6⟨v,a2h,acJ,a6k,rfl,a5X,TJ,a6l⟩;obtain⟨iD,aeh,aei,aej,aek,rfl,ag,aM,ij,ik,il⟩:=Mg (a6l.trans UG);have a5X:Jh [a4y,eE] [a4y,eE] MF (some ⟨Ed,0,none⟩) (KE aN z eK) a2h acJ w6 5 v [iD,aeh,aei,aej,aek]:=a5X;have adM:=zc a5X;rcases a5X.own.2 with⟨_,h9⟩|⟨g,zfb,cur,rfl,_⟩
 ·cases h9
 have hv:sr [iD,aeh,aei,aej,aek]=[.int .i64 2,.int .i64 0,.slice iD.ao 0 iD.cap,.int .i64 22,.int .i64 0,.slice aeh.ao 0 aeh.cap,.int .i64 0,.int .i64 0,.slice aei.ao 0 aei.cap,.int .i64 0,.int .i64 0,.slice aej.ao 0 aej.cap,.int .i64 0,.int .i64 0,.slice aek.ao 16 aek.cap]:=by
  simp[sr,Tol.vals,ag,aM,ij,ik,il,ze]
 have RD:=ha_ (zr w6.drew (some ⟨g,0,none⟩) _) (hv▸(zr.zef a5X.own));have A3:=ha_ (zr w6.drew aek.ao ((zg 16).map B)) (by have h9:=(a5X.outs aek (by simp)).self.2;rw[il] at h9;exact h9);have aan:=zc (ze 16);clear a5X TJ a6l ag aM ij ik il hv;have ai:=λ(z:zO (Below w6.heap.size) w6.drew)=>Zz (RD.below z.rel) 0 (u:=.int .i64 2) rfl;have aj:=λ(z:zO (Below w6.heap.size) w6.drew)=>Zz (RD.below z.rel) 3 (u:=.int .i64 22) rfl;have ak:=λ(z:zO (Below w6.heap.size) w6.drew)=>Zz (RD.below z.rel) 6 (u:=.int .i64 0) rfl;have an:=λ(z:zO (Below w6.heap.size) w6.drew)=>Zz (RD.below z.rel) 9 (u:=.int .i64 0) rfl;have iB:=λ(z:zO (Below w6.heap.size) w6.drew)=>Zz (RD.below z.rel) 12 (u:=.int .i64 0) rfl;have iC:=λ(z:zO (Below w6.heap.size) w6.drew)=>Zz (RD.below z.rel) 14 (u:=.slice aek.ao 16 aek.cap) rfl;have ej:=λ(z:zO (Below w6.heap.size) w6.drew)=>ZC (P:=pgm) z.val 23 9 5 underlying23 underlying5 underlying9 aek.ao 16 aek.cap (zg 16) aan (A3.below z.rel);go_wp2_with fail;refine yg (Below w6.heap.size) [] [(0,true),(1,true),(2,true),(3,true),(4,true),(5,true),(6,true),(7,true),(8,true),(9,true),(10,true),(11,true),(12,true),(13,true),(14,true),(15,true),(16,true),(17,true),(18,true),(19,true),(20,true),(21,true),(22,true),(23,true),(24,true),(25,true),(26,true),(27,true),(28,true),(29,true),(30,true),(31,true),(32,true),(33,true),(34,true),(35,true),(36,true),(37,true),(38,true),(39,true),(40,true),(41,true),(42,true),(43,true),(44,false),(45,false),(46,true),(47,true),(48,true)] (Below.refl w6.heap.size) (λ_ _ _ h k=>h.trans k) e0 e0 ?_;rintro ad7 rfl;iterate 44 refine m1K ?_
 refine aeR ?_;intro K hK;refine VH 23 5 (.int .u8 0) 1 16 rfl rfl rfl underlying23 z5 rfl rfl rfl ae ew (λw7 hb7 zd0=>hK _ _ (λ_=>zd0) ?_);clear hK K ai aj ak an iB iC ej;have A0:=ha_ (zr w7 (some ⟨w6.heap.size,0,none⟩) ((zg 16).map B)) hb7.lies;have EB:=zc zd0;have ej:=λ(z:zL w7)=>ZC (P:=pgm) z.val 23 9 5 underlying23 underlying5 underlying9 (some ⟨w6.heap.size,0,none⟩) 16 16 (zg 16) aan (A0.below z.later);clear hb7 zd0;go_simp
 (refine yc (λ_=>Below.refl _ _) rfl rfl (λK hK=>?_);go_big_quiet_step (fail);refine wpQuiet_nil (hK _ ?_);clear hK K)
 iterate 3 refine m1K ?_
 refine yB ?_;go_wp2;go_ret;have aR:=Pk.o;have aT:=adM.ext.size;have aM:=uX.trans ((show Below A4.heap.size A4 MF from by rw[ah];exact aee).mono uX.size);have ij:=Ext.bel aM adM.ext aM.size (λi hi=>by have:=aea.o;simp at hi;omega);exact⟨rfl,ij.trans (((Below.refl _ _).drew.trans EB).mono (zat aM.size aT))⟩


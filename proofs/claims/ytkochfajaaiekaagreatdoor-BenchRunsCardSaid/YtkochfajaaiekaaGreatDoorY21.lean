/- Laws. -/
import Derived.Test.YtkochfajaaiekaaGreatDoorY20
set_option linter.all false
set_option maxHeartbeats 16000000
set_option maxRecDepth 100000
open List renaming mem_of_getElem?->zad
open Nat renaming le_refl->zab,le_trans->zat
open Option renaming isNone_none->zc1
namespace Go.Proofs.YtkochfajaaiekaaGreatDoor
open Go.Proofs.Tryz
open Go.Proofs.Tryz renaming prog->pgm
variable{n:Nat}{b:La_}{w:World}{ss:List Str}
def mB{pass m:La_}(h:uM n pass b=some m)(h1:17<=b.length):m.length=b.length-16:=by
 unfold uM Qh at h;rw[if_neg ae,if_neg ae] at h;split at h
 ·cases h;rw[List.length_take,wA];omega
 ·cases h
section
open RowKit
attribute [local irreducible] zA zG zH zE zR
def Uu(h0:0<n)(h1:n<=128):zd6 3 n=0:=by unfold zd6;rw[if_neg (by omega),if_neg (by omega),if_pos rfl,if_pos ⟨h0,h1⟩]
def cR(h:n=0\/128<n):zd6 3 n=2:=by unfold zd6;rw[if_neg (by omega),if_neg (by omega),if_pos rfl,if_neg (by omega)]
def gx{cp:Nat}{k:yo}{a:Addr}(h:xB w cp k)(hl:zr w (some a) ((zfz n).map B)):Ctx w cp k 16 (some a) 8 8 (zfz n) none 0 0 [] :=
 ⟨h,ae,KA n,ae,ae,hl,rfl,ae,⟨zr.nil _ _,ab⟩,ab,by
  show(zeN (zeN _ _) _).length<=_;rw[vq,vq];simp[rowOf,zy,KA]⟩
def GU(hp q p:Nat)(ss:List Str)(n:Nat)(ao:OA)(np cp:Nat)(b:La_)(so:OA)(ns cs:Nat)(m:La_)(w:World)(hh:Head w hp q p ss)(hg:yi w)(hn:n<8)(hb:b.length=np)(h0:0<np)(h1:np<=128)(hc:np<=cp)(hl:zr w ao (b.map B))(hm:m.length=ns)(hm0:1<=ns)(hm1:ns<=64)(hmc:ns<=cs)(hlm:zr w so (m.map B)):Ca_ 49 #[pa_ hp,.int .i64 n,.slice ao np cp,.slice so ns cs] w λe w'=>e=.returned (.int .i64 0)/\(∃s,Head w' hp q p (ss.set n s)/\s.bs=XV n b m/\∀a,s.a=some a->w.heap.size<=a.block)/\Xa hp w w':=by
 refine ajJ hh hg hb ?_;intro PW M8 a5Y;refine ajJ hl hm hlm ?_;intro A0 PK P5;have aN:((ns:Int)==0)=false:=bq;have aN:decide ((ns:Int)>64)=false:=bq;have abX:=hh.zgv;clear hh hg hb hl hm hlm;go_enter func49,ntmps49;go_wp2_with fail;refine(rz hp n _ hn).mono ?_;rintro e A4⟨rfl,rfl⟩;go_wp2_with fail;refine(Q3 3 q p ao np cp b _ a5Y (Uu h0 h1) hc A0 PW.tab M8).mono ?_;rintro e A4⟨abY,rfl,abZ,sy⟩;have SW:=zc abZ.self;have uX:=zc sy;clear abZ abX;go_wp2_with fail;refine(ru n _ hn).mono ?_;rintro e A4⟨ac0,rfl,Ig,sy⟩;have SW:=zc (SW.later sy);have Ru:=zc Ig;have uX:=zc (uX.trans (sy.mono uX.size));clear Ig;go_wp2_with fail;refine(rQ so ns cs m _ (gx SW Ru) PK ae hmc (P5.below uX) (.inl rfl)).mono ?_;rintro e A4⟨aK,rfl,RV,Eu⟩;obtain⟨eT,iy,rfl,az,_,aR⟩:=zz RV;have I3:=ha_ (∀a,eT=some a->w.heap.size<=a.block) (λa e=>by
  subst e;obtain⟨h1,ag⟩:=RV.lt a.block rfl;exact zat uX.size h1)
 have uX:=zc (uX.trans (Eu.mono uX.size));have Om:=ha_ ((XV n b m).length=ns+16) (by rw[Xu,PK.o]);have ab2:=ha_ (Str.In A4 ⟨eT,iy,XV n b m⟩) ⟨by rw[Om.o];exact az,aR⟩;have PW:=zc (PW.later uX);clear RV aR Eu;go_wp2_with (refine PW.blk.zeJ (i:=1+n) (v:=.slice eT (ns+16) iy) rfl rfl rfl rfl kB rfl rfl (by simp[Yh,PW.len];omega) ?_);intro Ev aF oE;have a9H:=zc (PW.set n ⟨eT,iy,XV n b m⟩ ab2 (by intro ag;exfalso;rw[Om.o] at ag;omega) (by rw[show Str.val ⟨eT,iy,XV n b m⟩=.slice eT (ns+16) iy by simp[Str.val,Om.o]];exact aF) oE);have MY:=ha_ (Xa hp w Ev) ⟨A4,uX,oE⟩;go_wp2;go_ret;exact⟨rfl,⟨_,a9H,rfl,λa e=>I3 a e⟩,MY⟩
def X1(ss ss':List Str)(base:Nat):Prop:=∀t∈ss',t∈ss\/∀a,t.a=some a->base<=a.block
def X1.same(ss:List Str)(base:Nat):X1 ss ss base:=λt ht=>.inl ht
def X1.set{base:Nat}{s:Str}(h:∀a,s.a=some a->base<=a.block):X1 ss (ss.set n s) base:=λt ht=>(List.mem_or_eq_of_mem_set ht).imp id (λe=>by rw[e];exact h)
def GV(hp q p:Nat)(ss:List Str)(n:Int)(ao:OA)(np cp:Nat)(b:La_)(so:OA)(ns cs:Nat)(m:La_)(w:World)(hh:Head w hp q p ss)(hg:yi w)(hb:b.length=np)(hc:np<=cp)(hl:zr w ao (b.map B))(hm:m.length=ns)(hmc:ns<=cs)(hlm:zr w so (m.map B)):Ca_ 49 #[pa_ hp,.int .i64 n,.slice ao np cp,.slice so ns cs] w λe w'=>e=.returned (.int .i64 (Kc n b m))/\(∃ss',Head w' hp q p ss'/\rowOf ss'=Qt (rowOf ss) n b m/\X1 ss ss' w.heap.size)/\Xa hp w w':=by
 by_cases aD:n<0\/8<=n
 ·have ai:Kc n b m=16:=by unfold Kc;rw[if_pos aD]
  have aj:Qt (rowOf ss) n b m=rowOf ss:=by unfold Qt;rw[if_neg (by omega)]
  have aN:decide (0<=n/\n<8)=false:=bq;have PW:=zc hh;rw[ai,aj];clear hg hl hlm hb hm ai aj hh;go_enter func49,ntmps49;exact agN
 ·have aN:decide (0<=n/\n<8)=true:=by simp;omega
  by_cases eE:np=0\/128<np
  ·have ai:Kc n b m=2:=by unfold Kc;rw[if_neg aD,if_pos (by rw[hb];exact eE)]
   have aj:Qt (rowOf ss) n b m=rowOf ss:=by unfold Qt;rw[if_neg (by omega)]
   have PW:=zc hh;have abX:=hh.zgv;rw[ai,aj];clear hg hl hlm hb hm ai aj hh;have ac1:=cR eE;go_enter func49,ntmps49;go_wp2_with fail;refine(Q4 hp n _).mono ?_;rintro e A4⟨rfl,rfl⟩;go_wp2_with fail;refine(QN 3 q ao np cp _ (by rw[ac1];decide)).mono ?_;rintro e A4⟨rfl,rfl⟩;rw[ac1];clear ac1;go_wp2;go_ret;exact⟨rfl,⟨ss,PW,rfl,X1.same _ _⟩,Xa.of_below (Below.refl _ _)⟩
  ·by_cases eg:ns=0\/64<ns
   ·have ai:Kc n b m=if ns=0 then 7 else 6:=by
     unfold Kc;rw[if_neg aD,if_neg (by rw[hb];exact eE),hm];split
     ·rfl
     ·rw[if_pos ae]
    have aj:Qt (rowOf ss) n b m=rowOf ss:=by unfold Qt;rw[if_neg (by rw[ai];split<;>omega)]
    refine ajJ hh hg hb ?_;intro PW M8 a5Y;have A0:=zc hl;have abX:=hh.zgv;have MY:=zc (Uu (n:=np) ae ae);rw[ai,aj];clear hg hl hlm hb hm ai aj hh;have ah:(ns=0/\(if ns=0 then(7:Int) else 6)=7)\/(((ns:Int)==0)=false/\decide ((ns:Int)>64)=true/\(if ns=0 then(7:Int) else 6)=6):=by
     by_cases hz:ns=0
     ·exact .inl ⟨hz,by rw[if_pos hz]⟩
     ·exact .inr ⟨bq,bq,by rw[if_neg hz]⟩
    rcases ah with⟨hz,hr⟩|⟨d2,d3,hr⟩
    all_goals(
     rw[hr];try subst hz
     go_enter func49,ntmps49;go_wp2_with fail;refine(Q4 hp n _).mono ?_;rintro e A4⟨rfl,rfl⟩;go_wp2_with fail;refine(Q3 3 q p ao np cp b _ a5Y MY hc A0 PW.tab M8).mono ?_;rintro e A4⟨abY,rfl,abZ,sy⟩;have uX:=zc sy;clear abZ abX;go_wp2;go_ret;exact⟨rfl,⟨ss,PW.later uX,rfl,X1.same _ _⟩,Xa.of_below uX⟩)
   ·have ai:Kc n b m=0:=by
     unfold Kc;rw[if_neg aD,if_neg (by rw[hb];exact eE),if_neg ae,if_neg ae]
    obtain⟨k,rfl⟩:∃k:Nat,n=k:=⟨n.toNat,ae⟩
    have aj:Qt (rowOf ss) (k:Int) b m=(rowOf ss).set k (XV k b m):=by unfold Qt;rw[if_pos ai];rfl
    rw[ai,aj];refine(GU hp q p ss k ao np cp b so ns cs m w hh hg ae hb ae ae hc hl hm ae ae hmc hlm).mono ?_;rintro e w'⟨rfl,⟨ej,ag,aM,ij⟩,ik⟩;exact⟨rfl,⟨_,ag,by rw[gm,aM],X1.set ij⟩,ik⟩
def Uv(hp q p:Nat)(ss:List Str)(n:Int)(w:World)(hh:Head w hp q p ss):Ca_ 50 #[pa_ hp,.int .i64 n] w λe w'=>e=.returned (.int .i64 (Vt n))/\(∃ss',Head w' hp q p ss'/\rowOf ss'=ZP (rowOf ss) n/\X1 ss ss' w.heap.size)/\Xa hp w w':=by
 by_cases aD:n<0\/8<=n
 ·have ai:Vt n=16:=by unfold Vt;rw[if_pos aD]
  have aj:ZP (rowOf ss) n=rowOf ss:=by unfold ZP;rw[if_pos aD]
  have aN:decide (0<=n/\n<8)=false:=bq;have PW:=zc hh;rw[ai,aj];clear ai aj hh;go_enter func50,ntmps50;exact agN
 ·have aN:decide (0<=n/\n<8)=true:=bq;have ai:Vt n=0:=by unfold Vt;rw[if_neg aD]
  obtain⟨k,rfl⟩:∃k:Nat,n=k:=⟨n.toNat,ae⟩
  have aj:ZP (rowOf ss) (k:Int)=(rowOf ss).set k []:=by unfold ZP;rw[if_neg aD];rfl
  have PW:=zc hh;rw[ai,aj];clear ai aj hh;go_enter func50,ntmps50;go_wp2_with fail;refine(rz hp k _ ae).mono ?_;rintro e A4⟨rfl,rfl⟩;go_wp2_with (refine PW.blk.zeJ (i:=1+k) (v:=.slice none 0 0) rfl rfl rfl rfl kB rfl rfl (by simp[Yh,PW.len];omega) ?_);intro A4 aF oE;have a9H:=zc (PW.set k WI ⟨zab _,zr.nil _ _⟩ (λ_=>rfl) (by rw[show WI.val=.slice none 0 0 from rfl];exact aF) oE);have MY:=ha_ (Xa hp w A4) ⟨w,Below.refl _ _,oE⟩;go_wp2;go_ret;exact⟨rfl,⟨_,a9H,by rw[gm];rfl,X1.set (λa h=>by cases h)⟩,MY⟩
def zjB(w':World)(base:Nat)(o:Option (La_))(e:Ending):Prop:=match o with
 | some m=>∃ao,e=.returned (.tuple #[.slice ao m.length m.length,.bool true])/\zr w' ao (m.map B)/\∀a,ao=some a->base<=a.block
 | none=>e=.returned (.tuple #[.slice none 0 0,.bool false])
def C6(bc bh ci hp q p n:Nat)(b:La_)(ss:List Str)(s:Str)(w:World)(hci:xB w ci (.aez (qy b)))(hh:Head w hp q p ss)(hn:n<8)(hs:ss[n]? = some s)(h1:17<=s.bs.length)(h2:s.bs.length<=80)(hbc:Blk w bc [pa_ ci] 60)(hbh:Blk w bh [pa_ hp] 57):Ca_ 79 #[.int .i64 n,pa_ bc,pa_ bh] w λe w'=>zjB w' w.heap.size (uM n b s.bs) e/\Below w.heap.size w w':=by
 have SW:=zc hci;have NK:=zc (hh.each s (zad hs));have az:=λ(y:zL w.drew)=>(y.later.cell (p:=⟨bc,0,none⟩) hbc.drew.lt).trans (hbc.drew.cell 0 _ rfl);have AV:=λ(y:zL w.drew)=>(y.later.cell (p:=⟨bh,0,none⟩) hbh.drew.lt).trans (hbh.drew.cell 0 _ rfl);have AW:=λ(y:zL w.drew)=>(y.later.cell (p:=⟨hp,1+n,none⟩) hh.drew.blk.lt).trans (hh.drew.cells n s hs);unfold Str.val at AW;have uX:=zc (Below.refl w.heap.size w);obtain⟨oC,oE⟩:=n_ (uM n b s.bs);have I9:=ha_ (JM (.aez (qy b)) 16 (zfz n) (rowOf []) s.bs=oC/\∀m,oC=some m->0<m.length) ⟨oE.symm,λm e=>by rw[mB (oE.symm.trans e) h1];omega⟩;rw[<-oE];clear hci hh hs hbc hbh oE;go_enter func79,ntmps79;go_wp2_with fail;refine zp [0,1,3,4,5,6,7,8,2,9,10,11,12,13,14] e0 e0 ?_;rintro A4 rfl;refine ak5 uX ?_;intro uX;clear az AV AW;refine Pm ?_;intro K hK;refine(ru n _ hn).mono ?_;rintro e A4⟨ac0,rfl,Ig,sy⟩;have Ru:=zc Ig;have uX:=zc (uX.trans (sy.mono uX.size));refine aeN ?_;clear hK K Ig;refine aiz ?_;intro K hK;refine(rR s.a s.bs.length s.cap s.bs _ (gx (SW.later uX) Ru) rfl ae (NK.below uX).le ((NK.below uX).lies)).mono ?_;rintro e A4⟨ac2,sy⟩;have aT:=uX.size;have uX:=zc (uX.trans (sy.mono uX.size));rw[I9.1] at ac2;cases oC with
 | none =>
  obtain rfl:e=_:=ac2;refine ame ?_;clear hK K;refine afE ?_;go_wp2;go_ret2;exact ak9 uX
 | some m =>
  obtain⟨Ny,rfl,a4v,ac3⟩:=ac2;have P5:=zc a4v;have ac4:=ha_ (∀a,Ny=some a->w.heap.size<=a.block) (λa e=>by
   obtain⟨ie,eC,ai,ag,_⟩:=ac3 (I9.2 m rfl);rw[ai] at e;cases e;exact zat aT ag)
  refine aeN ?_;clear hK K a4v ac3;refine afE ?_;go_wp2;go_ret2;exact⟨⟨Ny,rfl,P5,ac4⟩,uX⟩
def WX(ci hp q p:Nat)(b:La_)(ss:List Str)(w:World)(x:Act)(wr:World):Prop :=
 ∃(us:Nat->Value)(bh bc:Nat),x=Xb bh bc us/\Hid (xB wr ci (.aez (qy b)))/\Hid (Head wr hp q p ss)/\Hid (Blk wr bc [.pointer (some ⟨ci,0,none⟩)] 60)/\Hid (Blk wr bh [.pointer (some ⟨hp,0,none⟩)] 57)/\Hid (Below w.heap.size w wr)
def WX.intro{ci hp q p:Nat}{x:Act}{wr:World}(bh bc:Nat)(hx:x=Xb bh bc (λi=>x.tmps.getD i undef))(h1:xB wr ci (.aez (qy b)))(h2:Head wr hp q p ss)(h3:Blk wr bc [.pointer (some ⟨ci,0,none⟩)] 60)(h4:Blk wr bh [.pointer (some ⟨hp,0,none⟩)] 57)(h5:Below w.heap.size w wr):WX ci hp q p b ss w x wr :=
 ⟨_,bh,bc,hx,h1,h2,h3,h4,h5⟩
def zjC(w':World)(base:Nat)(o:Option (La_×Nat))(e:Ending):Prop:=match o with
 | some (m,n)=>∃ao,e=.returned (.tuple #[.slice ao m.length m.length,.int .i64 (n:Int),.int .i64 0])/\zr w' ao (m.map B)/\∀a,ao=some a->base<=a.block
 | none=>e=.returned (.tuple #[.slice none 0 0,.int .i64 0,.int .i64 17])
attribute [local go_sem] Option.isNone_none
def GW(hp q p:Nat)(ss:List Str)(ao:OA)(np cp:Nat)(b:La_)(w:World)(hh:Head w hp q p ss)(hg:yi w)(hlen:∀s∈ss,s.bs.length=0\/17<=s.bs.length/\s.bs.length<=80)(hb:b.length=np)(h0:0<np)(h1:np<=128)(hc:np<=cp)(hl:zr w ao (b.map B)):Ca_ 51 #[.pointer (some ⟨hp,0,none⟩),.slice ao np cp] w λe w'=>zjC w' w.heap.size (nH b (rowOf ss)) e/\Below w.heap.size w w':=by
 obtain⟨ac5,ac6⟩:=n_ (nH b (rowOf ss));have ac7:=s_ ac6;rw[<-ac6];refine ajJ hh hg hlen ?_;intro PW M8 A2;have a5Y:=zc hb;have A0:=zc hl;refine aeC ?_;intro EW;have MY:=zc (Uu h0 h1);clear hh hg hlen hb hl ac6;go_enter func51,ntmps51;go_wp2_with (refine zh 57 _ ([.pointer (some ⟨hp,0,none⟩)]) _ rfl rfl rfl rfl ?_);refine amf ?_;intro A4 hb sy EW aB;generalize M1:w.heap.size=MN at*;have IZ:=zc M1;clear M1;have az:=EW.g0.cell 0 _ rfl;have abX:=(PW.later (EW.old IZ)).zgv;go_wp2_with fail;refine zN 0 (λx wr=>∃ci,WX ci hp q p b ss w x wr) (λ_ _=>0) rfl ?_ ?_
 ·simp only[qb];go_wp2_with fail;refine(Q3 3 q p ao np cp b _ a5Y MY hc (A0.below (EW.old IZ)) (PW.later (EW.old IZ)).tab (M8.below (EW.old IZ))).mono ?_;rintro e A4⟨ci,rfl,abZ,sy⟩;have SW:=zc abZ.self;refine aex ?_;intro EW;have aT:MN<A4.heap.size:=EW.g0.lt;clear abZ az abX;go_wp2_with (refine zf 60 [.pointer none] _ rfl rfl Wu rfl ?_);intro Ev hb sy;have EW:=zc (EW.push hb sy);have uX:=zc sy;have aB:=hb.lt;go_wp2_with (refine EW.g0.zeJ (v:=.pointer (some ⟨ci,0,none⟩)) rfl rfl rfl rfl Wv rfl rfl ab ?_);intro Ev aF oE;have SW:=zc (SW.later (zi uX oE (zab _)));have EW:=ha_ (St w MN Ev [(A4.heap.size,[.pointer (some ⟨ci,0,none⟩)],60),(MN,[.pointer (some ⟨hp,0,none⟩)],57)]) (EW.change 0 aF oE ae bq);go_wp2;exact⟨ci,WX.intro MN A4.heap.size rfl SW (PW.later (EW.old IZ)) EW.g0 EW.g1 (EW.old IZ)⟩
 ·clear az abX;rintro x ac8⟨ci,NU,a0i,a0W,rfl,SW,PW,a8V,a0x,Io⟩;have a0p:=a0x.cell 0 _ rfl;have Nx:=λ(w:World)(i:Nat)(s:Str)(hs:ss[i]? = some s)(hlt:i<8)=>qn (P:=pgm) w 103 23 8 (ss.map Str.val).toArray .i64 i s.val underlying103 mr kB (LU hs) hlt;have ac9:=zc Nx;have aan:=ha_ ((ss.map Str.val).toArray.size=8) (by simp[PW.len]);have uY:=zc PW.range;have aca:=Io.size;obtain⟨Tz,Ty⟩:=n_ ((ss.map Str.val).toArray);rw[<-Ty] at ac9 aan;clear Nx;simp only[Xb];go_wp2_with (refine wpList_load_mid rfl 103 (.tmp 30) rfl hp 1 rfl (ss.map Str.val) _ uY underlying103 rfl (by rw[cK];simp[PW.len]) ?_);rw[<-Ty];clear Ty a0p;go_wp2;go_loopw [32] (λc wr=>∃i:Nat,i<=8/\c=.int .i64 i/\Hid (Yy b i ((rowOf ss).drop i)=ac5/\True)/\Hid (Below ac8.heap.size ac8 wr)) (λc _=>8-(intOf c).toNat);case atStart=>exact⟨0,ae,rfl,ac7,zc (Below.refl _ _)⟩
  case round =>
   clear ac7;obtain⟨i,aO,rfl,ac7,uX⟩:=hrel;by_cases hlt:i<8
   ·obtain⟨s,hs⟩:∃s,ss[i]? = some s:=⟨ss[i]'(by rw[PW.len];exact hlt),ab⟩
    have aH:=λw=>ac9 w i s hs hlt;unfold Str.val at aH;have eA:=λ(w:World)=>Kg (P:=pgm) w 23 5 s.a s.bs.length s.cap underlying23;have acb:(rowOf ss).drop i=s.bs::(rowOf ss).drop (i+1):=Ui hs;rw[acb,Yy] at ac7;have acd:=PW.nil s (zad hs);have Pq:=A2.o s (zad hs);have a6C:=zc (PW.each s (zad hs));have ab2:=zc hs;by_cases h0:s.bs.length=0
    ·rw[acd h0,h0] at aH eA;simp only[zc1] at eA;rw[if_pos h0] at ac7;clear hs acd acb;exact ahM
    ·obtain⟨a7f,a7G,a7E,_,_⟩:=a6C.lies.at (by intro e;simp at e;rw[e] at h0;exact h0 rfl);rw[a7E] at aH eA;simp only[Option.isNone_some] at eA;rw[if_neg h0] at ac7;have a0H:=ha_ (17<=s.bs.length/\s.bs.length<=80) ae;clear hs acd acb a7E Pq;go_wp2_with fail;refine(C6 a0W a0i ci hp q p i b ss s _ (SW.later uX) (PW.later uX) hlt ab2 a0H.1 a0H.2 (a8V.below uX a8V.lt) (a0x.below uX a0x.lt)).mono ?_;rintro e A4⟨ac2,sy⟩;have a0K:=uX.size;have uX:=zc (uX.trans (sy.mono uX.size));obtain⟨oC,oE⟩:=n_ (uM i b s.bs);rw[<-oE] at ac2 ac7;clear oE;cases oC with
     | none =>
      obtain rfl:e=_:=ac2;have ac7:=ha_ (Yy b (i+1) ((rowOf ss).drop (i+1))=ac5/\True) ac7;exact ahM
     | some m =>
      obtain⟨a0m,rfl,a4v,ac3⟩:=ac2;have P5:=zc a4v;have ac4:=ha_ (∀a,a0m=some a->w.heap.size<=a.block) (λa e=>zat (zat aca a0K) (ac3 a e));have ac7:=ha_ (some (m,i)=ac5/\True) ac7;clear a4v ac3;go_wp2;rw[Exit.zdZ];go_ret3;rw[<-ac7.1];exact⟨⟨a0m,rfl,P5,ac4⟩,x7⟩
   ·obtain rfl:i=8:=ae;have ac7:=ha_ (none=ac5/\True) ⟨by rw[<-ac7.1,List.drop_of_length_le (by simp[rowOf,PW.len])];rfl,trivial⟩;go_wp2;rw[Exit.zdZ];go_ret3;rw[<-ac7.1];exact⟨rfl,x7⟩
def C7(hp q p:Nat)(ss:List Str)(ao:OA)(np cp:Nat)(b:La_)(w:World)(hh:Head w hp q p ss)(hg:yi w)(hk:a0v (rowOf ss))(hb:b.length=np)(hc:np<=cp)(hl:zr w ao (b.map B)):Ca_ 51 #[pa_ hp,.slice ao np cp] w λe w'=>(∃ao',e=.returned (.tuple #[.slice ao' (qW b (rowOf ss)).1.length (qW b (rowOf ss)).1.length,.int .i64 (qW b (rowOf ss)).2.1,.int .i64 (qW b (rowOf ss)).2.2])/\zr w' ao' ((qW b (rowOf ss)).1.map B)/\∀a,ao'=some a->w.heap.size<=a.block)/\Below w.heap.size w w':=by
 by_cases eE:np=0\/128<np
 ·have PW:=zc hh;refine aeC ?_;intro EW;have EM:=ha_ (qW b (rowOf ss)=([],0,2)/\True) ⟨by unfold qW;rw[if_pos (by rw[hb];exact eE)],trivial⟩;have abX:=hh.zgv;have ac1:=cR eE;clear hg hl hb hh hk;go_enter func51,ntmps51;go_wp2_with (refine zh 57 _ ([.pointer (some ⟨hp,0,none⟩)]) _ rfl rfl rfl rfl ?_);refine amf ?_;intro A4 hb sy EW aB;generalize M1:w.heap.size=MN at*;have IZ:=zc M1;clear M1;have az:=EW.g0.cell 0 _ rfl;have abX:=(PW.later (EW.old IZ)).zgv;go_wp2_with fail;refine zN 0 (λx wr=>False) (λ_ _=>0) rfl ?_ (λ_ _ h=>h.elim);simp only[qb];go_wp2_with fail;refine(QN 3 q ao np cp _ (by rw[ac1];decide)).mono ?_;rintro e A4⟨rfl,rfl⟩;rw[ac1];clear ac1;go_wp2_with (refine zf 60 [.pointer none] _ rfl rfl Wu rfl ?_);refine amf ?_;intro A4 hb sy EW aB;go_wp2_with (refine EW.g0.zeJ (v:=.pointer none) rfl rfl rfl rfl Wv rfl rfl ab ?_);intro A4 aF oE;have Eu:=zi EW.bel oE ae;go_wp2;first|go_ret3|(rw[Exit.zdZ];go_ret3)
  rw[EM.1];exact⟨⟨none,rfl,zr.nil _ _,λa h=>by cases h⟩,by rw[IZ.o];exact Eu⟩
 ·refine(GW hp q p ss ao np cp b w hh hg (λs hs=>hk s.bs (List.mem_map.2 ⟨s,hs,rfl⟩)) hb ae ae hc hl).mono ?_;rintro e w'⟨ag,aM⟩;refine⟨?_,aM⟩;unfold qW;rw[if_neg (by rw[hb];exact eE)];cases hf:nH b (rowOf ss) with
  | none =>
   rw[hf] at ag;exact⟨none,ag,zr.nil _ _,λa h=>by cases h⟩
  | some x =>
   obtain⟨aZ,Ep⟩:=x;rw[hf] at ag;exact ag
end
section
open RowKit
attribute [local irreducible] zA zG zH zE zR
def Ext.zgk{D:List Nat}{hp:Nat}{w w':World}(h:Xa hp w w')(h1:hp∈D):Ext D w w':=by obtain⟨A4,aF,oE⟩:=h;exact(Ext.of_below aF).trans (Ext.zd1 oE h1) (λi hi=>.inl hi)
section
variable{F O:List Nat}{w:World}{bp hp q p:Nat}{s:yN}{ss:List Str}{vv nv cv:Value}{x:Opr}
def L0(h:yr F O w bp s hp q p ss vv nv cv)(hx:yT F w x)(hg:yi w)(hk:x.c.kind=15):Ca_ 49 #[pa_ hp,.int .i64 x.c.n,.slice x.ko x.c.key.length x.kc,.slice x.bo x.c.b.length x.bc] w λe w'=>e=.returned (.int .i64 (kg s x.c).2.1)/\(∃ss',yr F O w' bp (kg s x.c).1 hp q p ss' vv nv cv)/\Ext O w w':=by unfold kg;rw[if_pos hk];refine(GV hp q p ss x.c.n _ _ _ x.c.key _ _ _ x.c.b w h.hd hg rfl hx.in.kc.1 hx.in.key rfl hx.in.bc.1 hx.in.b).mono ?_;rintro e w'⟨aJ,⟨ss',ag,aM,ij⟩,Am⟩;rw[h.hdr] at aM;exact⟨aJ,⟨ss',h.setHead ag aM (h.zei.hdr.lay _ _ _) ij Am⟩,Ext.zgk Am h.own.2⟩
def C8(h:yr F O w bp s hp q p ss vv nv cv)(hk:x.c.kind=16):Ca_ 50 #[pa_ hp,.int .i64 x.c.n] w λe w'=>e=.returned (.int .i64 (kg s x.c).2.1)/\(∃ss',yr F O w' bp (kg s x.c).1 hp q p ss' vv nv cv)/\Ext O w w':=by
 unfold kg;rw[if_neg ae,if_pos hk];refine(Uv hp q p ss x.c.n w h.hd).mono ?_;rintro e w'⟨aJ,⟨ss',ag,aM,ij⟩,Am⟩;rw[h.hdr] at aM;exact⟨aJ,⟨ss',h.setHead ag aM (by
  unfold ZP;split
  ·exact h.zei.hdr
  ·exact h.zei.hdr.set _ (.inl rfl)) ij Am⟩,Ext.zgk Am h.own.2⟩
def rW(h:yr F O w bp s hp q p ss vv nv cv)(hx:yT F w x)(hg:yi w):Ca_ 51 #[pa_ hp,.slice x.ko x.c.key.length x.kc] w λe w'=>(∃ao cap,e=.returned (.tuple #[.slice ao (qW x.c.key s.hdr).1.length cap,.int .i64 (qW x.c.key s.hdr).2.1,.int .i64 (qW x.c.key s.hdr).2.2])/\yq [] w.heap.size w' ao cap (qW x.c.key s.hdr).1)/\Below w.heap.size w w':=by refine(C7 hp q p ss _ _ _ x.c.key w h.hd hg (by rw[h.hdr];exact h.zei.hdr) rfl hx.in.kc.1 hx.in.key).mono ?_;rintro e w'⟨⟨ao,aJ,aR,eP⟩,aF⟩;rw[h.hdr] at aJ aR;exact⟨⟨ao,_,aJ,zab _,aR,λ_ a ha=>⟨eP a ha,λhi=>by cases hi⟩⟩,aF⟩
def Bp(s:yN){x:Cmd}(h:x.kind=15\/x.kind=16):(kg s x).2.2=(0,[]):=by
 unfold kg;rcases h with h|h
 ·rw[if_pos h]
 ·rw[if_neg ae,if_pos h]
def Uw(h:xi F O w bp s)(hx:yT F w x)(hg:yi w)(hk:x.c.kind=15):Ca_ 24 #[pa_ bp,.agg x.vals.toArray] w (yh F O w bp (kg s x.c)):=by
 refine alL ?_;intro eE ey ox a6h a4F a2v abw hi MM A6 EZ M8 EW;clear h;clear hk hi hx hg;go_enter func24,ntmps24;go_wp2_with (refine aqY ?_);refine am7 ?_;intro A4 aF sy EW aB;go_wp2_with (refine aqZ ?_);refine arh ?_;intro w2 aF sy EW aB;refine akM ?_;intro EM uX EZ M8 a9X abz abA Ik aX;have EB:=zc EW.bel;generalize M1:w.heap.size=bb at*;generalize A4.heap.size=MP at*;have iy:=abz.cell 0 (.int .i64 15) vi;refine asD ?_;intro ax;have ef:=λ(x':zO (a0d bp bb) w2.drew)=>(show Blk x'.val bb x.vals 38 from x'.rel.two.trans abz).cell 2 (.int .i64 x.c.n) rfl;have eY:=λ(x':zO (a0d bp bb) w2.drew)=>(show Blk x'.val bb x.vals 38 from x'.rel.two.trans abz).cell 4 (.slice x.ko x.c.key.length x.kc) rfl;have eZ:=λ(x':zO (a0d bp bb) w2.drew)=>(show Blk x'.val bb x.vals 38 from x'.rel.two.trans abz).cell 5 (.slice x.bo x.c.b.length x.bc) rfl;go_wp2_with fail;refine yg (a0d bp bb) [] [(0,true),(1,true),(2,true),(3,true),(4,true),(5,true),(6,true),(7,true),(8,true),(9,true),(10,false),(11,true),(12,false)] (a0d.refl _ _) (λ_ _ _=>a0d.trans) e0 e0 ?_;rintro A4 rfl;repeat((first|refine yK rfl rfl (λK hK=>?_)|refine yc (a0d.refl _ _) rfl rfl (λK hK=>?_));go_big_quiet_step (fail);refine wpQuiet_nil (hK _ ?_);clear hK K)
 clear iy ax ef eY eZ;refine aiO ?_;intro K hK ah;refine(L0 (uX.below ah) (EZ.below ah) (M8.below ah) MM).mono ?_;exact asR
def Ux(h:xi F O w bp s)(hx:yT F w x)(hg:yi w)(hk:x.c.kind=16):Ca_ 24 #[pa_ bp,.agg x.vals.toArray] w (yh F O w bp (kg s x.c)):=by
 refine alL ?_;intro eE ey ox a6h a4F a2v abw hi MM A6 EZ M8 EW;clear h;clear hk hi hx hg;go_enter func24,ntmps24;go_wp2_with (refine aqY ?_);refine am7 ?_;intro A4 aF sy EW aB;go_wp2_with (refine aqZ ?_);refine arh ?_;intro w2 aF sy EW aB;refine akM ?_;intro EM uX EZ M8 a9X abz abA Ik aX;have EB:=zc EW.bel;generalize M1:w.heap.size=bb at*;generalize A4.heap.size=MP at*;have iy:=abz.cell 0 (.int .i64 16) vi;refine asD ?_;intro ax;have ef:=λ(x':zO (a0d bp bb) w2.drew)=>(show Blk x'.val bb x.vals 38 from x'.rel.two.trans abz).cell 2 (.int .i64 x.c.n) rfl;go_wp2_with fail;refine yg (a0d bp bb) [] [(0,true),(1,true),(2,true),(3,true),(4,true),(5,true),(6,false),(7,true),(8,false)] (a0d.refl _ _) (λ_ _ _=>a0d.trans) e0 e0 ?_;rintro A4 rfl;repeat((first|refine yK rfl rfl (λK hK=>?_)|refine yc (a0d.refl _ _) rfl rfl (λK hK=>?_));go_big_quiet_step (fail);refine wpQuiet_nil (hK _ ?_);clear hK K)
 clear iy ax ef;refine aiO ?_;intro K hK ah;refine(C8 (uX.below ah) MM).mono ?_;exact asR
def Uy(h:xi F O w bp s)(hx:yT F w x)(hg:yi w)(hk:x.c.kind=17):Ca_ 24 #[pa_ bp,.agg x.vals.toArray] w (yh F O w bp (kg s x.c)):=by
 refine alL ?_;intro eE ey ox a6h a4F a2v abw hi MM A6 EZ M8 EW;clear h;clear hk hi hx hg;go_enter func24,ntmps24;go_wp2_with (refine aqY ?_);refine am7 ?_;intro A4 aF sy EW aB;go_wp2_with (refine aqZ ?_);refine arh ?_;intro w2 aF sy EW aB;refine akM ?_;intro EM uX EZ M8 a9X abz abA Ik aX;have EB:=zc EW.bel;generalize M1:w.heap.size=bb at*;generalize A4.heap.size=MP at*;have iy:=abz.cell 0 (.int .i64 17) vi;refine asD ?_;intro ax;refine asE ?_;intro ef;obtain⟨ace,acf⟩:=n_ (qW x.c.key s.hdr);have abJ:=ha_ (qW x.c.key s.hdr=ace/\kg s x.c=(s,(ace.2.2,ace.2.1,ace.1))) ⟨acf.symm,by unfold kg;rw[if_neg (by have:=MM.o;omega),if_neg (by have:=MM.o;omega),if_pos MM.o,<-acf]⟩;clear acf;go_wp2_with fail;refine yg (a0d bp bb) [] [(0,true),(1,true),(2,true),(3,true),(4,true),(5,true),(6,false),(7,true),(8,true),(9,true),(10,true),(11,true),(12,false),(13,true),(14,false),(15,true),(16,false)] (a0d.refl _ _) (λ_ _ _=>a0d.trans) e0 e0 ?_;rintro A4 rfl;repeat((first|refine yK rfl rfl (λK hK=>?_)|refine yc (a0d.refl _ _) rfl rfl (λK hK=>?_));go_big_quiet_step (fail);refine wpQuiet_nil (hK _ ?_);clear hK K)
 clear iy ax ef;refine aiO ?_;intro K hK ah;refine(rW (uX.below ah) (EZ.below ah) (M8.below ah)).mono ?_;rintro ai A4⟨⟨Ny,oF,rfl,abB⟩,sy⟩;rw[abJ.1] at abB |-;refine asI ?_;intro aF eg abA;have EM:=zc (EM.trans (Ext.of_below (ah.trans sy)) (λi hi=>.inl hi));have uY:=ha_ (xi ([]++([MP,bb]++F)) ([]++O) A4 bp (kg s x.c).1) (by rw[abJ.2];exact⟨_,_,_,_,_,_,_,aF⟩);have a6q:=ha_ (yq [] w2.heap.size A4 Ny oF (kg s x.c).2.2.2) (by rw[abJ.2];exact abB);go_simp;refine hK _ _ (λ_=>eg) ?_;clear hK K eg aF ah abB;repeat((first|refine yK rfl rfl (λK hK=>?_)|refine yc (a0d.refl _ _) rfl rfl (λK hK=>?_));go_big_quiet_step (fail);refine wpQuiet_nil (hK _ ?_);clear hK K)
 refine aeR ?_;intro K hK;refine abA.zd8 (i:=2) (v:=.slice Ny ace.1.length oF) rfl rfl rfl qT rfl rfl vu (λw6 hb6 ho6=>hK _ _ (λ_=>⟨ho6.block bp ae,ho6.block bb ae⟩) ?_);clear hK K;have abA:=zc hb6;have I9:=zc ho6;clear hb6 ho6;go_simp;repeat((first|refine yK rfl rfl (λK hK=>?_)|refine yc (a0d.refl _ _) rfl rfl (λK hK=>?_));go_big_quiet_step (fail);refine wpQuiet_nil (hK _ ?_);clear hK K)
 refine aeR ?_;intro K hK;refine abA.zd8 (i:=1) (v:=.int .i64 ace.2.1) rfl rfl rfl YL rfl rfl vu (λw7 hb6 ho6=>hK _ _ (λ_=>⟨ho6.block bp ae,ho6.block bb ae⟩) ?_);clear hK K;have abA:=zc hb6;have I9:=zc (I9.trans ho6);clear hb6 ho6;go_simp;repeat((first|refine yK rfl rfl (λK hK=>?_)|refine yc (a0d.refl _ _) rfl rfl (λK hK=>?_));go_big_quiet_step (fail);refine wpQuiet_nil (hK _ ?_);clear hK K)
 refine aeR ?_;intro K hK;refine abA.zd8 (i:=0) (v:=.int .i64 ace.2.2) rfl rfl rfl yJ rfl rfl vu (λw9 hb6 ho6=>hK _ _ (λ_=>⟨ho6.block bp ae,ho6.block bb ae⟩) ?_);clear hK K;have abA:=zc hb6;have I9:=zc (I9.trans ho6);clear hb6 ho6;go_simp;refine yB ?_;go_wp2_with (first|(refine abA.zdS rfl rfl rfl zn rfl ?_)|(refine abA.zdP rfl rfl rfl (cs:=[.int .i64 ace.2.2,.int .i64 ace.2.1,.slice Ny ace.1.length oF]) rfl zn rfl rfl (ye _ _ _ _ _) ?_));intro A4 aF oE;have uX:=zc aF;have I9:=zc (I9.trans oE);go_wp2;refine uX.result rfl rfl rfl zn rfl ?_;exact yh.of uY a6q EM I9 (λi hi=>by cases hi) ab ae ae a9X.1 a9X.2.2 (by rw[abJ.2])
def Uz(h:xi F O w bp s)(hx:yT F w x)(hg:yi w)(hk:x.c.kind=18):Ca_ 24 #[pa_ bp,.agg x.vals.toArray] w (yh F O w bp (kg s x.c)):=by
 refine alL ?_;intro eE ey ox a6h a4F a2v abw hi MM A6 EZ M8 EW;clear h;clear hk hi hx hg;go_enter func24,ntmps24;go_wp2_with (refine aqY ?_);refine am7 ?_;intro A4 aF sy EW aB;go_wp2_with (refine aqZ ?_);refine arh ?_;intro w2 aF sy EW aB;refine akM ?_;intro EM uX EZ M8 a9X abz abA Ik aX;have EB:=zc EW.bel;generalize M1:w.heap.size=bb at*;generalize A4.heap.size=MP at*;have iy:=abz.cell 0 (.int .i64 18) vi;refine asD ?_;intro ax;refine asE ?_;intro ef;obtain⟨ace,acf⟩:=n_ (qW x.c.key s.hdr);have abJ:=ha_ (qW x.c.key s.hdr=ace/\kg s x.c=(if ace.2.2≠0 then(s,(ace.2.2,0,[])) else if(kS s x.c ace.1).2≠0 then(s,((kS s x.c ace.1).2,0,[])) else((kS s x.c ace.1).1,(0,ace.2.1,[])))) ⟨acf.symm,by unfold kg;rw[if_neg (by have:=MM.o;omega),if_neg (by have:=MM.o;omega),if_neg (by have:=MM.o;omega),<-acf]⟩;clear acf;go_wp2_with fail;refine yg (a0d bp bb) [] [(0,true),(1,true),(2,true),(3,true),(4,true),(5,true),(6,false),(7,true),(8,true),(9,true),(10,true),(11,true),(12,true),(13,true)] (a0d.refl _ _) (λ_ _ _=>a0d.trans) e0 e0 ?_;rintro A4 rfl;repeat((first|refine yK rfl rfl (λK hK=>?_)|refine yc (a0d.refl _ _) rfl rfl (λK hK=>?_));go_big_quiet_step (fail);refine wpQuiet_nil (hK _ ?_);clear hK K)
 clear iy ax ef;refine aiO ?_;intro K hK ah;refine(rW (uX.below ah) (EZ.below ah) (M8.below ah)).mono ?_;rintro ai A4⟨⟨Ny,oF,rfl,abB⟩,sy⟩;rw[abJ.1] at abB |-;refine asI ?_;intro aF eg abA;have abz:=zc (abz.drew.below sy abz.lt);have EM:=zc (EM.trans (Ext.of_below (ah.trans sy)) (λi hi=>.inl hi));have M8:=zc (M8.below (ah.trans sy));have uX:=zc aF;have a6q:=zc abB;have aT:=(ah.trans sy).size;go_simp;refine hK _ _ (λ_=>eg) ?_;clear hK K eg aF ah abB;repeat((first|refine yK rfl rfl (λK hK=>?_)|refine yc (a0d.refl _ _) rfl rfl (λK hK=>?_));go_big_quiet_step (fail);refine wpQuiet_nil (hK _ ?_);clear hK K)
 refine yB ?_;have a57:∀z:Int,pgm.built 35 [(0,.int .i64 z)]=some #[.int .i64 z,.int .i64 0,.slice none 0 0]:=λ_=>by kernel_rfl
 by_cases ag:ace.2.2=0;rotate_left
 ·have PW:=ha_ (kg s x.c=(s,(ace.2.2,0,[]))/\True) ⟨by rw[abJ.2,if_pos ag],trivial⟩;have aN:(ace.2.2==0)=false:=x9;have eK:(ace.2.2 != 0)=true:=x9;clear ag;go_wp2_with (refine abA.zdP rfl rfl rfl (cs:=[.int .i64 ace.2.2,.int .i64 0,.slice none 0 0]) rfl zn rfl rfl (ye _ _ _ _ _) ?_);refine anx ?_;intro Ev aF oE EB I9;go_wp2;refine afW ?_;rw[PW.1];exact yh.of (N:=[]) (A:=[MP,bb]) ⟨_,_,_,_,_,_,_,uX⟩ (yq.none [] w2.heap.size A4) EM I9 (λi hi=>by cases hi) ab ae ae a9X.1 a9X.2.2 rfl
 ·have aN:(ace.2.2==0)=true:=x9;have eK:(ace.2.2 != 0)=false:=x9;have PW:=ha_ (kg s x.c=(if(kS s x.c ace.1).2≠0 then(s,((kS s x.c ace.1).2,0,[])) else((kS s x.c ace.1).1,(0,ace.2.1,[])))/\(kS s x.c ace.1).2=(kS s x.c ace.1).2) ⟨by rw[abJ.2,if_neg (by simpa using ag)],rfl⟩;clear ag;go_wp2_with (refine HY ?_);go_wp2_with fail;refine(cQ (x:=x) uX M8 Ny _ oF ace.1 rfl a6q.le a6q.lies).mono ?_;rintro ai A4⟨rfl,N,Ew,aJ,acg⟩;refine afD ?_;intro abA EM;have uY:=zc Ew;have Nl:=ha_ (∀i∈N,w2.heap.size<=i) (λi hi=>zat aT (acg i hi));have OW:=ha_ ((kS s x.c ace.1).2≠0->(kS s x.c ace.1).1=s) (Fc s x.c ace.1);obtain⟨ib,eP⟩:=n_ ((kS s x.c ace.1).2);refine ajU eP ?_;intro I3;rw[<-eP];clear aJ acg eP;by_cases ag:ib=0
  ·have aN:(ib != 0)=false:=x9;have PW:=ha_ (kg s x.c=((kS s x.c ace.1).1,(0,ace.2.1,[]))/\True) ⟨by rw[PW.1,if_neg (by rw[<-I3.1];simpa using ag)],trivial⟩;clear ag;go_wp2_with (refine abA.zeJ (i:=1) (v:=.int .i64 ace.2.1) rfl rfl rfl rfl YL rfl rfl vu ?_);refine anx ?_;intro IX Ew Oo abA I9;go_wp2_with (first|(refine abA.zdS rfl rfl rfl zn rfl ?_)|(refine abA.zdP rfl rfl rfl (cs:=[.int .i64 0,.int .i64 ace.2.1,.slice none 0 0]) rfl zn rfl rfl (ye _ _ _ _ _) ?_));intro Ev aF oE;have EB:=zc aF;have I9:=zc (I9.trans oE);go_wp2;refine afW ?_;rw[PW.1];exact yh.of uY (yq.none N w2.heap.size A4) EM I9 Nl ab ae ae a9X.1 a9X.2.2 rfl
  ·have aN:(ib != 0)=true:=x9;have PW:=ha_ (kg s x.c=(s,(ib,0,[]))/\(kS s x.c ace.1).1=s) ⟨by rw[PW.1,if_pos (by rw[<-I3.1];exact ag),<-I3.1],OW (by rw[<-I3.1];exact ag)⟩;clear ag;go_wp2_with (refine abA.zdP rfl rfl rfl (cs:=[.int .i64 ib,.int .i64 0,.slice none 0 0]) rfl zn rfl rfl (ye _ _ _ _ _) ?_);refine anx ?_;intro Ev aF oE EB I9;go_wp2;refine afW ?_;rw[PW.1];exact yh.of (r:=(s,(ib,0,[]))) (by have:=uY.o;rw[PW.2] at this;exact this) (yq.none N w2.heap.size A4) EM I9 Nl ab ae ae a9X.1 a9X.2.2 rfl


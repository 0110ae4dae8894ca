/- Laws. -/
import Derived.Test.YtkochfajaaiekaaGreatDoorY30
set_option linter.all false
set_option maxHeartbeats 16000000
set_option maxRecDepth 100000
open Nat renaming le_refl->zab
namespace Go.Proofs.YtkochfajaaiekaaGreatDoor
open Go.Proofs.Tryz
open Go.Proofs.Tryz renaming prog->pgm
section
open RowKit
attribute [local irreducible] zA zG zH zE zR
def Ns(n:Int)(s:ByteArray):pgm.built 38 [(0,.int .i64 10),(2,.int .i64 n),(6,.string s)]=some #[.int .i64 10,.int .i64 0,.int .i64 n,.int .i64 0,.slice none 0 0,.slice none 0 0,.string s]:=e0
def Nt(n:Int)(s:ByteArray):pgm.built 38 [(0,.int .i64 11),(2,.int .i64 n),(6,.string s)]=some #[.int .i64 11,.int .i64 0,.int .i64 n,.int .i64 0,.slice none 0 0,.slice none 0 0,.string s]:=e0
def NB(a1:OA)(n1 c1:Nat)(a2:OA)(n2 c2:Nat)(n:Int)(name:La_):Lb_:=[.slice a1 n1 c1,.slice a2 n2 c2,.int .i64 n,.string (str name)]
def M1{w:World}{kd n:Int}{name:La_}(hk:0<=kd/\kd<=100)(hn:a05 n)(hl:name.length<=maxLen):Opr.In w ⟨⟨kd,0,n,0,[],[],name⟩,none,0,none,0⟩ :=
 ⟨xe kd hk.1 hk.2,xe 0 bd bd,hn,xe 0 bd bd,zr.nil _ _,zr.nil _ _,⟨zab _,Nat.zero_le _⟩,⟨zab _,trivial⟩,hl⟩
def bnames_law(a1:OA)(n1 c1:Nat)(xs:List Opr)(a2:OA)(n2 c2:Nat)(ys:List Opr)(folder:Int)(name:La_)(w:World)(hn1:xs.length=n1)(hx:wN w a1 xs)(hm1:n1<=maxLen)(hn2:ys.length=n2)(hy:wN w a2 ys)(hm2:n2<=maxLen)(hfn:a05 folder)(hnl:name.length<=maxLen)(hg:zeT w)(hbg:yi w):C_b 5 #[.agg (NB a1 n1 c1 a2 n2 c2 folder name).toArray] w (.bool true):=by
 refine ajJ hn1 hx hn2 ?_;intro Nl EZ OW;refine ajJ hy hfn hnl ?_;intro Pn I3 NM;have PK:=zc (And.intro hm1 hm2);have M8:=zc hg;have ae8:=zc hbg;clear hn1 hx hm1 hn2 hy hm2 hfn hnl hg hbg;simp only[NB];go_enter func5,ntmps5;go_wp2;go_quiet (fail);go_wp2_with fail;refine ars ?_;intro A4 An uX aeq;cases An with
 | false =>
  exact aho
 | true =>
 have aer:=zc (aeq rfl);go_wp2_with fail;refine(Mt a2 n2 c2 15 ys _ OW (Pn.below uX) PK.2).mono ?_;refine asl uX ?_;intro A4 An uX aeq;cases An with
 | false =>
  exact aho
 | true =>
 have aes:=zc (aeq rfl);have Eh:(str name).size=name.length:=xa;obtain⟨ln,Ig⟩:=n_ name.length;rw[<-Ig] at Eh;have Ru:=zc Ig;obtain⟨ae5,NX⟩:=n_ (str name);rw[<-NX] at Eh |-;have apQ:=zc NX;clear Ig NX;by_cases ag:300<ln
 ·have aN:(300:Int)<(ln:Int):=by omega
  exact aho
 have A6:=ha_ (name.length<=300) (by rw[<-Ru.o];omega);have aN:(ln:Int)<=(300:Int):=ae;have eK:decide (300<ln)=false:=bq;clear ag;have abN:n1<=15:=Ky;have aD:n2<=15:=QD;go_wp2_with fail;refine(Dl [] _ (M8.below uX) (λi hi=>by cases hi)).mono ?_;refine ary ?_;intro A4 a0V Au M0 aet Ey I9;clear M0 aet Ey aN eK Eh;go_wp2_with fail;refine(G9 a1 n1 c1 xs _ Nl (EZ.below I9.bel) ae).mono ?_;rintro e A4⟨aK,rfl,RV,Eu⟩;obtain⟨S0,acy,rfl,_,_,_⟩:=zz RV;have uY:=zc (He I9 ae Nl EZ.each (λx hx=>by have:=aer.2 x hx;omega) ae8 RV Eu);clear RV Eu;go_wp2_with fail;refine uY.mono ?_;rintro e A4⟨Rf,a2h,acJ,rfl,oE⟩;have I9:=zc (oE.mono (show 0+n1<=15 by omega));generalize (doL zee (vG xs)).1=s at*;have MS:=Ns folder ae5;go_wp2_with fail;rw[apQ.o];refine(mE (x:=⟨⟨10,0,folder,0,[],[],name⟩,none,0,none,0⟩) I9.ben (I9.zjT ae) (UI (M1 ⟨bd,bd⟩ I3 NM) I9.bel I9.new ⟨ab,ab,by have:=A6.o;simp only;omega⟩) (ae8.below I9.bel)).mono ?_;rintro e Ev ah;obtain⟨a7G,oX,apC,apD,rfl,oE,aQ⟩:=I9.did ah;have apF:=zc (Nk s ⟨10,0,folder,0,[],[],name⟩ (by show(10:Int)≠9;omega));have MY:=zc (UV I9.ben.zei (folder:=folder) (name:=name));have I9:=zc (oE.and aQ);clear ah aQ MS;generalize do1 s ⟨10,0,folder,0,[],[],name⟩=An at*;have I9:=ha_ (One w a0V 16 apC apD An.1 _ (Tol.mk An.2 a7G oX).In Ev) ⟨I9.ben,I9.few,I9.bel,I9.new,I9.vars,λw' hu=>(I9.keep w' hu).2⟩;go_wp2_with (refine ar1 ?_);intro IX aF Eu;have I9:=zc (I9.push aF Eu (zab _));clear Eu;generalize Ev.heap.size=a7f at*;go_wp2_with (refine (I9.get 0 rfl).zdP rfl rfl rfl (cs:=[.int .i64 An.2.1,.int .i64 An.2.2.1,.slice a7G An.2.2.2.length oX]) rfl zn rfl rfl (ye _ _ _ _ _) ?_);intro A4 aF oE;have I9:=zc (I9.set aF oE (λe he=>by cases he));have iy:=(I9.get 0 rfl).cell 0 _ rfl;by_cases ag:An.2.1=0;rotate_left
 ·have aN:(An.2.1==0)=false:=a8M;have eK:(An.2.1 != 0)=true:=by rw[bne,aN];rfl
  go_wp2_with fail;refine asm M8 I9 ae8 ?_;intro Ev uX;exact aho
 obtain⟨a8c,apR,eJ,apS⟩:=MY ag;have A2:=zc eJ;have apT:=zc apS;rw[ag] at iy;have A6:=ha_ (∃F O s,s.nam=some a8c/\One w a0V (16+0) F O s _ (Tol.mk An.2 a7G oX).In A4) ⟨_,_,_,apF.trans apR,I9⟩;clear apR eJ apS;go_wp2;clear iy;go_loopw [9] (λc wr=>∃j:Nat,j<=n2/\c=.int .i64 j/\Hid (∃F O s,s.nam=some a8c/\One w a0V (16+j) F O s [(a7f,[.int .i64 An.2.1,.int .i64 An.2.2.1,.slice a7G An.2.2.2.length oX],35)] (Tol.mk An.2 a7G oX).In wr)) (λc _=>n2-(intOf c).toNat);case atStart=>exact⟨0,ae,rfl,A6⟩
 case round =>
  clear A6;obtain⟨j,aA,rfl,A6⟩:=hrel;have Pw:=ha_ (∃F O s,s.nam=some a8c/\One w a0V (16+(j+1)) F O s _ (Tol.mk An.2 a7G oX).In wr) alb;obtain⟨F,O,s,apR,Oo⟩:=A6;have apU:=zc apR;have I9:=zc Oo;clear A6 apR;by_cases aB:j<n2
  ·refine ard ?_;intro y Ac AF a6C NL;obtain⟨NP,a83,adN,rfl,a7p,eI⟩:=(Pn.below I9.bel).at Ac;have uY:=zc eI;have apJ:=zc y.zew;refine ar8 ?_;intro iy c1 c2 A5;refine arn ?_;intro P6 Sz SA;clear eI NP AF Ac;by_cases Pp:y.c.kind=9
   ·have ai:(y.c.kind==9)=true:=by rw[Pp];rfl
    have aj:(y.c.kind != 9)=false:=by rw[Pp];rfl
    clear Pp;exact ag5
   have ai:(y.c.kind==9)=false:=by rw[beq_eq_false_iff_ne];exact Pp
   have aj:(y.c.kind != 9)=true:=by rw[bne,ai];rfl
   have MM:=ha_ (y.c.kind≠9) Pp;go_wp2_with fail;refine(Bu y _).mono ?_;refine asj I9 ?_;intro IX I9;clear iy c1 c2 A5 P6 Sz SA;go_wp2_with fail;refine arL ?_;rintro e A4 ah;obtain⟨Ny,oF,a2h,acJ,rfl,oE,_⟩:=I9.did ah;have Py:=ha_ (∃F O s,s.nam=some a8c/\One w a0V (16+(j+1)) F O s _ (Tol.mk An.2 a7G oX).In A4) ⟨_,_,_,(Nk s y.c MM).trans apU,oE⟩;clear ah;generalize do1 s y.c=a7g at*;go_wp2;go_roundw;case rel=>exact⟨j+1,ae,hM,Py⟩
   case measure=>simp[intOf];omega
  ·obtain rfl:j=n2:=by omega
   clear Pw;have c2:=(I9.get 0 rfl).cell 2 _ rfl;have ek:=I9.keep.self;have ej:=ZC (P:=pgm) wr 23 9 5 underlying23 underlying5 underlying9 a7G An.2.2.2.length oX An.2.2.2 rfl ek.2;have apV:=Nt folder (str An.2.2.2);clear ek;go_wp2_with fail;refine(mE (x:=⟨⟨11,0,folder,0,[],[],An.2.2.2⟩,none,0,none,0⟩) I9.ben (I9.zjT ae) (UI (M1 ⟨bd,bd⟩ I3 (by have:=A2.o;unfold maxLen;omega)) I9.bel I9.new ⟨ab,ab,by have:=A2.o;simp only;omega⟩) (ae8.below I9.bel)).mono ?_;rintro e A4 ah;obtain⟨Ny,ap0,a2h,acJ,rfl,oE,aQ⟩:=I9.did ah;have aew:=apT.o s apU;have A0:=aQ.self.2;rw[aew] at A0 |-;have A0:=zc A0;have EB:=zc oE.bel;clear ah aQ aew ej c2 apV;simp only;go_wp2_with (refine ar1 ?_);intro A4 apo apK;go_wp2_with (refine apo.zdP rfl rfl rfl (cs:=[.int .i64 0,.int .i64 0,.slice Ny name.length ap0]) rfl zn rfl rfl (ye _ _ _ _ _) ?_);intro A4 apL apM;have apN:=zc (zi apK apM (zab _));have uX:=zc (EB.trans (apN.mono EB.size));have iy:=apL.cell 0 _ rfl;have c2:=apL.cell 2 _ rfl;have ej:=ZC (P:=pgm) A4 23 9 5 underlying23 underlying5 underlying9 Ny name.length ap0 name rfl (A0.below apN);clear apo apK apL apM;go_wp2_with fail;refine asn M8 uX ae8 ?_;intro A4 apP;go_wp2;go_ret;exact ak9 apP


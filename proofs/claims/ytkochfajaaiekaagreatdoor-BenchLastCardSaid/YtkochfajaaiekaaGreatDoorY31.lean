/- Laws. -/
import Derived.Test.YtkochfajaaiekaaGreatDoorY30
set_option linter.all false
set_option maxHeartbeats 16000000
set_option maxRecDepth 100000
open Nat renaming le_refl->zab,zero_le->zcr
namespace Go.Proofs.YtkochfajaaiekaaGreatDoor
open Go.Proofs.Tryz
open Go.Proofs.Tryz renaming prog->pgm
variable{w:World}{n:Int}
section
open RowKit
attribute [local irreducible] zA zG zH zE zR
def Hf(n:Int)(a:OA)(l c:Nat):pgm.built 38 [(0,.int .i64 2),(2,.int .i64 n),(5,.slice a l c)]=some #[.int .i64 2,.int .i64 0,.int .i64 n,.int .i64 0,.slice none 0 0,.slice a l c,.string ⟨#[]⟩]:=e0
def Hg(n:Int):pgm.built 38 [(0,.int .i64 3),(2,.int .i64 n)]=some #[.int .i64 3,.int .i64 0,.int .i64 n,.int .i64 0,.slice none 0 0,.slice none 0 0,.string ⟨#[]⟩]:=e0
def Q8(n:Int)(h0:0<=n)(h1:n<=1000):a05 n:=⟨ae,ae⟩
def Hh{a:OA}{c:Nat}{bs:La_}(hn:a05 n)(hl:zr w a (bs.map B))(hc:bs.length<=c/\c<=maxLen):Opr.In w ⟨⟨2,0,n,0,[],bs,[]⟩,none,0,a,c⟩ :=
 ⟨Q8 2 bd bd,Q8 0 bd bd,hn,Q8 0 bd bd,zr.nil _ _,hl,⟨zab _,zcr _⟩,⟨hc.1,trivial⟩,by unfold maxLen;simp⟩
def Mi(hn:a05 n):Opr.In w ⟨⟨3,0,n,0,[],[],[]⟩,none,0,none,0⟩ :=
 ⟨Q8 3 bd bd,Q8 0 bd bd,hn,Q8 0 bd bd,zr.nil _ _,zr.nil _ _,⟨zab _,zcr _⟩,⟨zab _,trivial⟩,by unfold maxLen;simp⟩
def Mj(a b:Int)(ao:OA)(l c:Nat)(w:World):(Instr.field 35 (.agg #[.int .i64 a,.int .i64 b,.slice ao l c]) 0).run pgm w=.ok (.int .i64 a) w:=e0
def zjU(a1:OA)(n1 c1:Nat)(a2:OA)(n2 c2:Nat)(n:Int)(a4:OA)(n4 c4:Nat):Lb_:=[.slice a1 n1 c1,.slice a2 n2 c2,.int .i64 n,.slice a4 n4 c4]
def blast_law(a1:OA)(n1 c1:Nat)(xs:List Opr)(a2:OA)(n2 c2:Nat)(ys:List Opr)(n:Int)(a4:OA)(n4 c4:Nat)(bs:La_)(w:World)(hn1:xs.length=n1)(hx:wN w a1 xs)(hm1:n1<=maxLen)(hn2:ys.length=n2)(hy:wN w a2 ys)(hm2:n2<=maxLen)(hfn:a05 n)(hn4:bs.length=n4)(hl4:zr w a4 (bs.map B))(hc4:n4<=c4/\c4<=maxLen)(hg:zeT w)(hbg:yi w):C_b 3 #[.agg (zjU a1 n1 c1 a2 n2 c2 n a4 n4 c4).toArray] w (.bool true):=by
 refine ajJ hn1 hx hn2 ?_;intro Nl EZ OW;refine ajJ hy hfn hn4 ?_;intro Pn I3 aeo;have A0:=zc hl4;have SW:=zc hc4;have PK:=zc (And.intro hm1 hm2);have M8:=zc hg;have ae8:=zc hbg;clear hn1 hx hm1 hn2 hy hm2 hfn hn4 hl4 hc4 hg hbg;simp only[zjU];go_enter func3,ntmps3;go_wp2;go_quiet (fail);go_wp2_with fail;refine ars ?_;intro A4 An uX aeq;cases An with
 | false =>
  exact aho
 | true =>
 have aer:=zc (aeq rfl);go_wp2_with fail;refine(Mt a2 n2 c2 15 ys _ OW (Pn.below uX) PK.2).mono ?_;refine asl uX ?_;intro A4 An uX aeq;cases An with
 | false =>
  exact aho
 | true =>
 have aes:=zc (aeq rfl);by_cases ag:200<n4
 ·have aN:(200:Int)<(n4:Int):=by omega
  exact aho
 have A6:=ha_ (n4<=200) ae;have aN:(n4:Int)<=(200:Int):=ae;have eK:decide (200<n4)=false:=bq;clear ag;have abN:n1<=15:=Ky;have aD:n2<=15:=QD;go_wp2_with fail;refine(Dl [] _ (M8.below uX) (λi hi=>by cases hi)).mono ?_;refine ary ?_;intro A4 a0V Au M0 aet Ey I9;clear M0 aet Ey aN eK;go_wp2_with fail;refine(G9 a1 n1 c1 xs _ Nl (EZ.below I9.bel) ae).mono ?_;rintro e A4⟨aK,rfl,RV,Eu⟩;obtain⟨S0,acy,rfl,_,_,_⟩:=zz RV;have uY:=zc (He I9 ae Nl EZ.each (λx hx=>by have:=aer.2 x hx;omega) ae8 RV Eu);clear RV Eu;go_wp2_with fail;refine uY.mono ?_;rintro e A4⟨Rf,a2h,acJ,rfl,oE⟩;have I9:=zc (oE.mono (show 0+n1<=15 by omega));generalize (doL zee (vG xs)).1=s at*;have MS:=Hf n a4 n4 c4;have ai:=aeo.o;subst ai;go_wp2_with fail;refine(mE (x:=⟨⟨2,0,n,0,[],bs,[]⟩,none,0,a4,c4⟩) I9.ben (I9.zjT ae) (UI (Hh I3 A0 SW) I9.bel I9.new ⟨ab,by have:=A6.o;simp;omega,ab⟩) (ae8.below I9.bel)).mono ?_;rintro e Ev ah;obtain⟨Ny,oF,a2h,acJ,rfl,oE,_⟩:=I9.did ah;have MY:=zc (Dr I9.ben.zei n bs);have I9:=zc oE;clear ah MS;generalize do1 s ⟨2,0,n,0,[],bs,[]⟩=An at*;have acb:=λw=>Mj An.2.1 An.2.2.1 Ny An.2.2.2.length oF w;by_cases ag:An.2.1=0;rotate_left
 ·have aN:(An.2.1==0)=false:=a8M;have eK:(An.2.1 != 0)=true:=by rw[bne,aN];rfl
  go_wp2_with fail;refine asm M8 I9 ae8 ?_;intro A4 uX;exact aho
 obtain⟨k,aQ,aeu⟩:=MY ag;subst aQ;have aev:=zc aeu;have A6:=ha_ (∃F O s,XO k bs s/\One w a0V (16+0) F O s [] (λ_=>True) Ev) ⟨_,_,_,aev,I9⟩;rw[ag] at acb |-;clear aeu ag;go_wp2;clear acb;go_loopw [8] (λc wr=>∃j:Nat,j<=n2/\c=.int .i64 j/\Hid (∃F O s,XO k bs s/\One w a0V (16+j) F O s [] (λ_=>True) wr)) (λc _=>n2-(intOf c).toNat);case atStart=>exact⟨0,ae,rfl,A6⟩
 case round =>
  clear A6;obtain⟨j,aA,rfl,A6⟩:=hrel;have Pw:=ha_ (∃F O s,XO k bs s/\One w a0V (16+(j+1)) F O s [] (λ_=>True) wr) alb;obtain⟨F,O,s,aeu,oE⟩:=A6;have aev:=zc aeu;have I9:=zc oE;clear A6 aeu;by_cases aB:j<n2
  ·refine ard ?_;intro y Ac AF a6C NL;obtain⟨NP,a83,adN,rfl,a7p,eI⟩:=(Pn.below I9.bel).at Ac;have uY:=zc eI;have ER:=zc y.zew;refine ar8 ?_;intro iy c1 c2 A5;have c4:wr.cell? ⟨a83,adN+j*7+4,none⟩=some (.slice y.ko y.c.key.length y.kc):=eI 4 _ rfl;have P6:wr.cell? ⟨a83,adN+j*7+5,none⟩=some (.slice y.bo y.c.b.length y.bc):=eI 5 _ rfl;have Sz:wr.cell? ⟨a83,adN+j*7+6,none⟩=some (.string (str y.c.name)):=eI 6 _ rfl;clear eI NP AF Ac;by_cases Pp:y.c.kind=1
   ·have ai:(y.c.kind==1)=true:=by rw[Pp];rfl
    clear Pp;exact ag5
   have ai:(y.c.kind==1)=false:=by rw[beq_eq_false_iff_ne];exact Pp
   by_cases TC:y.c.kind=5
   ·have ai:(y.c.kind==5)=true:=by rw[TC];rfl
    clear Pp TC;exact ag5
   have ai:(y.c.kind==5)=false:=by rw[beq_eq_false_iff_ne];exact TC
   by_cases a7K:y.c.kind=18
   ·have ai:(y.c.kind==18)=true:=by rw[a7K];rfl
    clear Pp TC a7K;exact ag5
   have ai:(y.c.kind==18)=false:=by rw[beq_eq_false_iff_ne];exact a7K
   by_cases a7L:y.c.kind=2/\y.c.n=(k:Int)
   ·have e2:(y.c.kind==2)=true:=by rw[a7L.1];rfl
    have e3:(y.c.n==(k:Int))=true:=by rw[a7L.2];simp
    clear Pp TC a7K a7L;exact ag5
   have MM:=ha_ (y.c.kind≠1/\y.c.kind≠5/\y.c.kind≠18/\¬(y.c.kind=2/\y.c.n=(k:Int))) ⟨Pp,TC,a7K,a7L⟩;clear Pp TC a7K;have e2:(y.c.kind==2)=false\/(y.c.kind==2)=true/\(y.c.n==(k:Int))=false:=by
    by_cases ag:y.c.kind=2
    ·right;exact⟨by rw[ag];rfl,by rw[beq_eq_false_iff_ne];exact λhh=>a7L ⟨ag,hh⟩⟩
    ·left;rw[beq_eq_false_iff_ne];exact ag
   clear a7L;have ael:∀ou:Unit,True:=λ_=>trivial;rcases e2 with e2|⟨e2,e3⟩
   all_goals(
    go_wp2_with fail;refine(Bu y _).mono ?_;refine asj I9 ?_;intro A4 I9;clear iy c1 c2 A5 c4 P6 Sz;go_wp2_with fail;refine arL ?_;rintro e A4 ah;obtain⟨Ny,oF,a2h,acJ,rfl,oE,_⟩:=I9.did ah;have Py:=ha_ (∃F O s,XO k bs s/\One w a0V (16+(j+1)) F O s [] (λ_=>True) A4) ⟨_,_,_,Mh I9.ben.zei y.c aev MM.1 MM.2.1 MM.2.2.1 MM.2.2.2,oE⟩;clear ah;generalize do1 s y.c=An at*;go_wp2;go_roundw;case rel=>exact⟨j+1,ae,hM,Py⟩
    case measure=>simp[intOf];omega)
  ·obtain rfl:j=n2:=by omega
   clear Pw;have oZ:=Hg (k:Int);go_wp2_with fail;refine(mE (x:=⟨⟨3,0,(k:Int),0,[],[],[]⟩,none,0,none,0⟩) I9.ben (I9.zjT ae) (UI (Mi I3) I9.bel I9.new ⟨ab,ab,ab⟩) (ae8.below I9.bel)).mono ?_;rintro e A4 ah;obtain⟨Ny,ap0,a2h,acJ,rfl,oE,aQ⟩:=I9.did ah;have aew:=Hd aev;have ER:=aQ.self.2;rw[aew] at ER |-;have ER:=zc ER;have EB:=zc oE.bel;clear ah aQ aew oZ;simp only;go_wp2_with (refine ar1 ?_);intro A4 MZ Eu;go_wp2_with (refine MZ.zdP rfl rfl rfl (cs:=[.int .i64 0,.int .i64 0,.slice Ny bs.length ap0]) rfl zn rfl rfl (ye _ _ _ _ _) ?_);intro A4 I0 a03;have MC:=zc (zi Eu a03 (zab _));have uX:=zc (EB.trans (MC.mono EB.size));have iy:=I0.cell 0 _ rfl;have c2:=I0.cell 2 _ rfl;have ej:=ZC (P:=pgm) A4 23 9 5 underlying23 underlying5 underlying9 Ny bs.length ap0 bs rfl (ER.below MC);have ej:=ZC (P:=pgm) A4 23 9 5 underlying23 underlying5 underlying9 a4 bs.length c4 bs rfl (A0.below uX);clear MZ Eu I0 a03;go_wp2_with fail;refine asn M8 uX ae8 ?_;intro A4 EB;go_wp2;go_ret;exact ak9 EB


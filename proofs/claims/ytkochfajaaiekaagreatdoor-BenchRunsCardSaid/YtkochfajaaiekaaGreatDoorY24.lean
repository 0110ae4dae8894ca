/- Laws. -/
import Derived.Test.YtkochfajaaiekaaGreatDoorY23
set_option linter.all false
set_option maxHeartbeats 16000000
set_option maxRecDepth 100000
open List renaming take_add_one->zbi,take_of_length_le->zai
open Nat renaming le_of_eq->zdi
namespace Go.Proofs.YtkochfajaaiekaaGreatDoor
open Go.Proofs.Tryz
variable{w:World}{xs:List Opr}
section
open RowKit
attribute [local irreducible] zA zG zH zE zR
def fa(xs:List Opr):Lb_:=(xs.map Opr.vals).flatten
def De(xs:List Opr)(x:Opr):fa (xs++[x])=fa xs++x.vals:=by simp[fa]
def mI{base n:Nat}{va:OA}{zfb:Nat}(h:w.ownsRow base 38 7 (.slice va n zfb) n (fa xs))(hx:∀x∈xs,x.In w):wN w va xs :=
 ⟨⟨by intro v hv;obtain⟨x,_,rfl⟩:=List.mem_map.1 hv;exact x.zew,zr.zef h⟩,hx⟩
def G9(ao:OA)(n cap:Nat)(xs:List Opr)(w:World)(hn:xs.length=n)(hx:wN w ao xs)(hn2:n<=1000):Ca_ 12 #[.slice ao n cap] w λe w'=>∃v,e=.returned v/\w'.ownsRow w.heap.size 38 7 v n (fa xs)/\Below w.heap.size w w':=by
 obtain⟨aS,aO,aT,aU,aV⟩:=info_parts mH;refine aeW ?_;intro NK;have Nl:=zc hn;have EZ:=zc hx;clear hn hx aO aT aU aV;go_enter func12,ntmps12;go_wp2;go_loopw [3,4] (λv c wr=>∃j:Nat,j<=n/\c=.int .i64 j/\Hid (wr.ownsRow w.heap.size 38 7 v j (fa (xs.take j)))/\Hid (Below w.heap.size w wr)) (λ_ c _=>n-(intOf c).toNat);case atStart=>exact⟨0,ae,rfl,vm _ _ _ _,Below.refl _ _⟩
 case round =>
  obtain⟨j,aA,rfl,I9,uX⟩:=hrel;by_cases aB:j<n
  ·refine art ?_;intro x Ac;have Tb:=ha_ (fa (xs.take (j+1))=fa (xs.take j)++x.vals) (by rw[zbi,Ac];exact De _ _);obtain⟨NP,a83,adN,rfl,a7p,eI⟩:=(EZ.below uX).at Ac;have uY:=zc eI;have A0:=zc x.zew;clear Ac NP eI;go_wp2_with (refine wpList_load_mid rfl 40 (.tmp 14) rfl a83 (adN+j*7) rfl _ _ uY underlying40 rfl E5 ?_);go_wp2_with fail;refine(Bu x _).mono ?_;refine ajW I9 uX ?_;intro A4 Et I9 uX;clear Et;go_wp2_with (refine qL 31 38 7 1 _ [x.vals] rfl rfl rfl underlying31 cX rfl ae rfl ae ae (by simp[x.zew]) ?_);intro Ev aF Eu;have EB:=ha_ (zr Ev (some ⟨A4.heap.size,0,none⟩) x.vals) k5;have I9:=zc (zo I9 Eu);have uX:=zc (uX.trans (Eu.mono uX.size));clear Eu;go_wp2_with (at_builtin;refine wpList_append_own _ rfl (.tmp 11) (.tmp 17) 31 rfl w.heap.size 38 aS (.agg ZV.toArray) 7 96 underlying31 NK.1 NK.2.1 NK.2.2.1 NK.2.2.2 rfl bd _ _ _ rfl I9 ⟨A4.heap.size,0,none⟩ 1 1 x.vals rfl rfl EB.news x.zfa ew ae uX.size ?_);exact asp
  ·obtain rfl:j=n:=by omega
   rw[zai (zdi Nl.o)] at I9;go_wp2;go_ret;exact⟨_,rfl,I9,uX⟩
def FewC(most:Nat)(xs:List Opr):Prop:=xs.length<=most/\∀x∈xs,x.c.key.length<=140/\x.c.b.length<=200/\x.c.name.length<=300
def mJ(l:List Opr):Prop:=∀y∈l,y.c.key.length<=140/\y.c.b.length<=200/\y.c.name.length<=300
def ZW(most:Nat)(xs:List Opr)(w:World)(e:Ending)(w':World):Prop:=∃r:Bool,e=.returned (.bool r)/\(r=true->FewC most xs)/\Below w.heap.size w w'
def ZW.no{most:Nat}{w':World}(h:Below w.heap.size w w'):ZW most xs w (.returned (.bool false)) w':=⟨false,rfl,λh=>ds,h⟩
def Ha{j:Nat}{x:Opr}(h:mJ (xs.take j))(hj:xs[j]? = some x)(hx:x.c.key.length<=140/\x.c.b.length<=200/\x.c.name.length<=300):mJ (xs.take (j+1)):=by
 intro er hy;rw[zbi,hj] at hy;rcases List.mem_append.1 hy with hy|hy
 ·exact h er hy
 ·simp at hy;subst hy;exact hx
def Mt(ao:OA)(n cap most:Nat)(xs:List Opr)(w:World)(hn:xs.length=n)(hx:wN w ao xs)(hcm:n<=maxLen):Ca_ 9 #[.slice ao n cap,.int .i64 most] w (ZW most xs w):=by
 have Nl:=zc hn;have EZ:=zc hx;have a7d:n<=9223372036854775807:=by unfold maxLen at hcm;omega
 clear hn hx hcm;go_enter func9,ntmps9;by_cases adU:most<n
 ·have adV:(most:Int)<(n:Int):=by omega
  go_wp2;go_ret;exact ZW.no (Below.refl _ _)
 have aah:=ha_ (n<=most) ae;have adV:(n:Int)<=(most:Int):=ae;have adW:decide (most<n)=false:=bq;clear adU;go_wp2;go_loopw [5] (λc wr=>∃j:Nat,j<=n/\c=.int .i64 j/\Hid (mJ (xs.take j))/\Hid (Below w.heap.size w wr)) (λc _=>n-(intOf c).toNat);case atStart=>exact⟨0,ae,rfl,λy hy=>(by simp at hy),Below.refl _ _⟩
 case round =>
  obtain⟨j,aA,rfl,a1L,uX⟩:=hrel;by_cases aB:j<n
  ·refine art ?_;intro x Ac;obtain⟨NP,a83,adN,rfl,a7p,eI⟩:=(EZ.below uX).at Ac;have adO:=zc Ac;have uY:=zc eI;have A0:=zc x.zew;have Eh:(str x.c.name).size=x.c.name.length:=xa;have AT:(j:Int)<(n:Int):=ae;clear eI Ac NP;go_wp2_with (first|(refine wpList_load_mid rfl 40 (.tmp 20) rfl a83 (adN+j*7) rfl _ _ uY underlying40 rfl E5 ?_)|(refine zf 40 ZV _ rfl rfl dZ rfl ?_));intro A4 aF Et;have adX:=uX.size;have uX:=zc (uX.trans (Et.mono uX.size));generalize adY:wr.heap.size=adZ at*;clear Et;go_wp2_with (refine aF.zdP rfl rfl rfl rfl XN rfl A0 x.zfa ?_);intro A4 aF oE;have uX:=zc (zi uX oE adX);obtain⟨ae0,ae1⟩:=n_ x.c.kind;obtain⟨adH,ae2⟩:=n_ x.c.n;obtain⟨ae3,ae4⟩:=n_ x.c.m;have iy:=aF.cell 0 (.int .i64 ae0) (by rw[ae1];rfl);have iy:=aF.cell 2 (.int .i64 adH) (by rw[ae2];rfl);have iy:=aF.cell 3 (.int .i64 ae3) (by rw[ae4];rfl);have iy:=aF.cell 4 _ rfl;have A5:=aF.cell 5 _ rfl;have P6:=aF.cell 6 _ rfl;clear ae1 ae2 ae4;obtain⟨lk,a61⟩:=n_ x.c.key.length;obtain⟨lb,a1i⟩:=n_ x.c.b.length;obtain⟨ln,Ig⟩:=n_ x.c.name.length;rw[<-a61] at iy;rw[<-a1i] at A5;rw[<-Ig] at Eh;have a9M:=zc (And.intro a61 (And.intro a1i Ig));generalize str x.c.name=ae5 at*;clear a61 a1i Ig;have adV:True:=trivial;by_cases ie:140<lk
   ·have aN:(140:Int)<(lk:Int):=by omega
    exact agI
   have aN:(lk:Int)<=(140:Int):=ae;by_cases oL:200<lb
   ·have aN:(200:Int)<(lb:Int):=by omega
    clear ie;exact agI
   have aN:(lb:Int)<=(200:Int):=ae;by_cases oM:300<ln
   ·have aN:(300:Int)<(ln:Int):=by omega
    clear ie oL;exact agI
   have aN:(ln:Int)<=(300:Int):=ae;have Pk:=zc (Ha a1L adO ⟨by have:=a9M.1;omega,by have:=a9M.2.1;omega,by have:=a9M.2.2;omega⟩);clear ie oL oM a1L;by_cases ax:ae0=1
   ·have ai:(ae0==1)=true:=by rw[ax];rfl
    exact ajA
   have ai:(ae0==1)=false:=by rw[beq_eq_false_iff_ne];exact ax
   clear ax;by_cases ax:ae0=18
   ·have ai:(ae0==18)=true:=by rw[ax];rfl
    exact ajA
   have ai:(ae0==18)=false:=by rw[beq_eq_false_iff_ne];exact ax
   clear ax;exact aeI
  ·obtain rfl:j=n:=by omega
   rw[zai (zdi Nl.o)] at a1L;have AT:¬((j:Int)<(j:Int)):=ae;go_wp2;go_ret;exact⟨true,rfl,λ_=>⟨by rw[Nl.o];exact aah,a1L⟩,uX⟩


/- Laws. -/
import Derived.Test.YtkochfajaaiekaaGreatDoorY23
set_option linter.all false
set_option maxHeartbeats 16000000
set_option maxRecDepth 100000
namespace Go.Proofs.YtkochfajaaiekaaGreatDoor
open Go.Proofs.Tryz
section
open RowKit
attribute [local irreducible] zA zG zH zE zR
def MA:Lb_:=[.int .i64 2,.int .i64 0,.slice none 0 0]
def MC(j:Nat):Lb_:=(List.replicate j MA).flatten
def Ng(j:Nat):MC (j+1)=MC j++MA:=by unfold MC;rw[List.replicate_succ',List.flatten_append];simp
abbrev My(lo:OA)(n lc:Nat)(v:Value)(us:Nat->Value):Act:={ tmps:=#[.pointer none,.slice lo n lc,us 2,us 3,us 4,v,us 6,us 7,us 8,us 9,us 10,us 11,us 12,us 13,us 14,us 15,us 16,us 17,us 18,us 19,us 20,us 21],defers:=[] }
def M6(w:World)(lo:OA)(n lc:Nat)(x:Act)(wr:World):Prop :=
 ∃(us:Nat->Value)(j:Nat)(v:Value),x=My lo n lc v us/\j<=n/\Hid (wr.ownsRow w.heap.size 35 3 v j (MC j))/\Hid (Below w.heap.size w wr)
def M6.intro{w:World}{lo:OA}{n lc:Nat}{x:Act}{wr:World}(j:Nat)(v:Value)(hx:x=My lo n lc v (λi=>x.tmps.getD i undef))(hj:j<=n)(h1:wr.ownsRow w.heap.size 35 3 v j (MC j))(h2:Below w.heap.size w wr):M6 w lo n lc x wr:=⟨_,j,v,hx,hj,h1,h2⟩
def NA(lo:OA)(n lc:Nat)(xs:List Opr)(w:World)(hn:xs.length=n)(hmn:n<=1000)(hops:wN w lo xs):Ca_ 11 #[.pointer none,.slice lo n lc] w λe w'=>∃v,e=.returned v/\w'.ownsRow w.heap.size 35 3 v n (MC n)/\Below w.heap.size w w':=by
 obtain⟨aS,aO,aT,aU,aV⟩:=info_parts dY;refine aeW ?_;intro NK;have Nl:=zc hn;have abq:=zc hops;clear hn hops aO aT aU aV;go_enter func11,ntmps11;go_wp2_with fail;refine zN 0 (M6 w lo n lc) (λx _=>n-X3 (x.tmps.getD 5 undef)) rfl ?_ ?_
 ·simp only[qb];go_wp2;exact M6.intro 0 _ rfl (Nat.zero_le _) (vm _ _ _ _) (Below.refl _ _)
 ·rintro x oU⟨NU,j,v,rfl,aA,I9,uX⟩;obtain⟨S0,acy,ai,_,_,_⟩:=zz I9;subst ai;by_cases aB:j<n
  ·refine art ?_;intro x Ac;obtain⟨NP,a83,adN,rfl,a7p,eI⟩:=(abq.below uX).at Ac;have Nu:=zc eI;have A0:=zc x.zew;have eA:((j:Int)==(n:Int))=false:=AA;clear eI Ac NP;simp only[My];go_wp2_with (refine wpList_load_mid rfl 38 (.tmp 17) rfl a83 (adN+j*7) rfl _ _ Nu underlying38 rfl (by rw[A0.o];exact qM.2) ?_);go_wp2_with fail;refine(NH x _).mono ?_;refine ajW I9 uX ?_;intro A4 ap1 I9 uX;clear ap1;go_wp2_with (refine qL 29 35 3 1 _ [MA] rfl rfl rfl underlying29 su rfl ae rfl ae ae (by intro v aL;simp at aL;rw[aL];rfl) ?_);intro Ev aF ED;have EB:=ha_ (zr Ev (some ⟨A4.heap.size,0,none⟩) MA) k5;have I9:=zc (zo I9 ED);have uX:=zc (uX.trans (ED.mono uX.size));clear ED;go_wp2_with (at_builtin;refine wpList_append_own _ rfl (.tmp 12) (.tmp 20) 29 rfl w.heap.size 35 aS (.agg yy.toArray) 3 40 underlying29 NK.1 NK.2.1 NK.2.2.1 NK.2.2.2 rfl bd _ j (MC j) rfl I9 ⟨A4.heap.size,0,none⟩ 1 1 MA rfl rfl EB.news (ye _ _ _ _ _) ew ae uX.size ?_);intro aK A4 OH oG _;rw[<-Ng] at OH;have EB:=zc (zU uX I9 oG (Nat.le_refl _) uX.size);have TQ:=zc OH;obtain⟨aa3,ap2,ai,_,_,_⟩:=zz OH;subst ai;clear OH oG;go_wp2;refine wp_goto ⟨rfl,M6.intro (j+1) _ ?_ ae TQ EB,?_⟩
   ·first|rfl|(simp only[My];push_cast;rfl)
   ·simp[X3];omega
  ·obtain rfl:j=n:=ae;have eA:((j:Int)==(j:Int))=true:=ab;simp only[My];go_wp2;first|(rw[Exit.zdZ];go_ret)|go_ret
   exact⟨_,rfl,I9,uX⟩


/- Laws. -/
import Derived.Test.YtkochfajaaiekaaGreatDoorY24
import Derived.Test.YtkochfajaaiekaaGreatDoorY25
set_option linter.all false
set_option maxHeartbeats 16000000
set_option maxRecDepth 100000
namespace Go.Proofs.YtkochfajaaiekaaGreatDoor
open Go.Proofs.Tryz
section
open RowKit
attribute [local irreducible] zA zG zH zE zR
def MI:∀(n j k:Nat)(u:Value),j<n->MA[k]? = some u->(MC n)[3*j+k]? = some u
 | 0,j,k,u,h,_=>absurd h (Nat.not_lt_zero _)
 | n+1,j,k,u,h,hu=>by
  have hk:k<3:=by
   have:=(List.getElem?_eq_some_iff.1 hu).1;simpa[MA] using this
  have ai:MC (n+1)=MA++MC n:=by unfold MC;rw[List.replicate_succ,List.flatten_cons]
  rw[ai];cases j with
  | zero=>rw[Nat.mul_zero,Nat.zero_add,List.getElem?_append_left (by simp[MA];omega)];exact hu
  | succ j =>
   rw[List.getElem?_append_right (by simp[MA];omega)];have ag:=MI n j k u ae hu;rw[show 3*(j+1)+k-MA.length=3*j+k by simp[MA];omega];exact ag
def bnone_law(ao:OA)(n cap:Nat)(xs:List Opr)(w:World)(hn:xs.length=n)(hx:wN w ao xs)(hcm:n<=maxLen)(hg:zeT w)(hbg:yi w):C_b 6 #[.slice ao n cap] w (.bool true):=by
 obtain⟨aS,aO,aT,aU,aV⟩:=info_parts mH;refine aeW ?_;intro NK;refine ajJ hn hx hg ?_;intro Nl EZ M8;have ae8:=zc hbg;have RC:=zc hcm;clear hn hx hg hbg aO aT aU aV hcm;go_enter func6,ntmps6;go_wp2_with fail;refine(Mt ao n cap 15 xs w Nl EZ RC).mono ?_;rintro ai A4⟨An,rfl,aep,Eu⟩;have uX:=zc Eu;have aeq:=zc aep;clear aep Eu;cases An with
 | false =>
  exact aho
 | true =>
  have abN:n<=15:=Ee;go_wp2;go_loopw [4,5] (λv c wr=>∃j:Nat,j<=n/\c=.int .i64 j/\Hid (wr.ownsRow w.heap.size 38 7 v j (fa (xs.take j)))/\Hid (Below w.heap.size w wr)) (λ_ c _=>n-(intOf c).toNat);case atStart=>exact⟨0,ae,rfl,vm _ _ _ _,uX⟩
  case round =>
   clear uX;obtain⟨j,aA,rfl,I9,uX⟩:=hrel;by_cases aB:j<n
   ·refine art ?_;intro x Ac;have Tb:=ha_ (fa (xs.take (j+1))=fa (xs.take j)++x.vals) (by rw[List.take_add_one,Ac];exact De _ _);obtain⟨NP,a83,adN,rfl,a7p,eI⟩:=(EZ.below uX).at Ac;have uY:=zc eI;have A0:=zc x.zew;clear Ac NP eI;go_wp2_with (refine wpList_load_mid rfl 40 (.tmp 20) rfl a83 (adN+j*7) rfl _ _ uY underlying40 rfl E5 ?_);go_wp2_with fail;refine(Bu x _).mono ?_;rintro ai A4⟨rfl,Et⟩;have I9:=zc (zo I9 Et);have uX:=zc (uX.trans (Et.mono uX.size));clear Et;go_wp2_with (refine qL 31 38 7 1 _ [x.vals] rfl rfl rfl underlying31 cX rfl ae rfl ae ae (by simp[x.zew]) ?_);intro Ev aF Eu;have EB:=ha_ (zr Ev (some ⟨A4.heap.size,0,none⟩) x.vals) k5;have I9:=zc (zo I9 Eu);have uX:=zc (uX.trans (Eu.mono uX.size));clear Eu;go_wp2_with (at_builtin;refine wpList_append_own _ rfl (.tmp 17) (.tmp 23) 31 rfl w.heap.size 38 aS (.agg ZV.toArray) 7 96 underlying31 NK.1 NK.2.1 NK.2.2.1 NK.2.2.2 rfl bd _ _ _ rfl I9 ⟨A4.heap.size,0,none⟩ 1 1 x.vals rfl rfl EB.news x.zfa ew ae uX.size ?_);exact asp
   ·obtain rfl:j=n:=by omega
    rw[List.take_of_length_le (Nat.le_of_eq Nl.o)] at I9;obtain⟨S0,acy,aj,_,_,_⟩:=zz I9;subst aj;have abq:=zc (mI I9 (λx hx=>(EZ.each x hx).below uX));have aA:j<=1000:=ae;go_wp2_with fail;refine(NA S0 j acy xs _ Nl aA abq).mono ?_;rintro ai A4⟨aK,rfl,I4,ED⟩;have uX:=zc (uX.trans (ED.mono uX.size));obtain⟨aa3,ap3,rfl,_,_,aR⟩:=zz I4;have A0:=zc aR;clear ED aR;go_wp2;go_loopw [7] (λc wr=>∃k:Nat,k<=j/\c=.int .i64 k/\A4=wr) (λc _=>j-(intOf c).toNat);case atStart=>exact⟨0,ae,rfl,rfl⟩
    case round =>
     obtain⟨k,aQ,rfl,rfl⟩:=hrel;by_cases a61:k<j
     ·obtain⟨ax,oC,aj,iy⟩:=A0 (3*k+0) _ (MI j k 0 _ a61 rfl);subst aj;obtain⟨om,oD,aj,A5⟩:=A0 (3*k+1) _ (MI j k 1 _ a61 rfl);cases aj;obtain⟨om,oD,aj,P6⟩:=A0 (3*k+2) _ (MI j k 2 _ a61 rfl);cases aj;have iy:A4.cell? ⟨ax,oC+k*3,none⟩=some (.int .i64 2):=by rw[show oC+k*3=oC+(3*k+0) by omega];exact iy
      have A5:A4.cell? ⟨ax,oC+k*3+1,none⟩=some (.int .i64 0):=by rw[show oC+k*3+1=oC+(3*k+1) by omega];exact A5
      have P6:A4.cell? ⟨ax,oC+k*3+2,none⟩=some (.slice none 0 0):=by rw[show oC+k*3+2=oC+(3*k+2) by omega];exact P6
      go_wp2;go_roundw;case rel=>exact⟨k+1,ae,hM,trivial⟩
      case measure=>simp[intOf];omega
     ·obtain rfl:k=j:=ae;refine arH ?_;intro ap4;have aT:(FloatKind.f64.format.order 0 0==some .eq)=true:=ar;have MR:((k:Int)==(k:Int))=true:=ab;go_wp2_with fail;refine(Nr _).mono ?_;rintro ai A4⟨rfl,rfl⟩;go_wp2_with fail;refine(gE _ (M8.below uX) (ae8.below uX)).mono ?_;rintro ai A4⟨rfl,Eu⟩;have EB:=zc (uX.trans (Eu.mono uX.size));clear Eu;go_wp2;go_ret;exact ak9 EB


/-
  Texts of this claim, one behind the other.
-/
import Derived.Test.YtjaioajjfiaheaaGreatDoorR1
import Derived.Test.YtjaioajjfiaheaaGreatDoorR31
import Derived.Test.YtjaioajjfiaheaaGreatDoorR19
import Derived.Lib.Hide
set_option linter.unusedVariables false
set_option linter.unusedSimpArgs false
set_option maxHeartbeats 16000000
set_option maxRecDepth 100000
namespace Go.Proofs.YtjaioajjfiaheaaGreatDoor
open Go.RowKit Go.Mem Go.Ops Go.Cells Go.Oct Go.Gf Go.Trn Go.Aes Go.Ring Go.Ezk Go.Ezh Go.Ezt Go.Ezc Go.Aez Go.Blake Go.CutP Go.Fl Go.Adi Go.Hct Go.Wid
attribute [local irreducible] zE zN zO zM yu
def za3 (base:Nat) (w:World) (a:Option Addr) (s:List UInt8) (g:Nat) (tl:List Value):Prop:=0 < s.length→a=some ⟨g,0,none⟩∧base≤g∧Blk w g (s.map B++tl) 5
theorem za3.lies {base:Nat} {w:World} {a:Option Addr} {s:List UInt8} {g:Nat} {tl:List Value} (h:za3 base w a s g tl):zr w a (s.map B):=by
 cases s with
 | nil=>exact zr.nil _ _
 | cons x r=>obtain ⟨rfl,_,hb⟩:=h (by simp);exact ZY hb
theorem za3.below {base:Nat} {w w':World} {a:Option Addr} {s:List UInt8} {g:Nat} {tl:List Value} (h:za3 base w a s g tl) (hb:Below w.heap.size w w'):za3 base w' a s g tl:=fun h0=>⟨(h h0).1,(h h0).2.1,(h h0).2.2.below hb (h h0).2.2.lt⟩
def QA (F:Nat) (pre:World→Prop) (args:Array Value) (s:List UInt8) (c:Int):Prop:=∀ w,pre w→Calls Tryz.prog F args w fun e w'=>∃ a cap g tl,e=.returned (.tuple #[.slice a s.length cap,.int .i64 c])∧za3 w.heap.size w' a s g tl∧Below w.heap.size w w'
theorem row_of {base n:Nat} {w:World} {v:Value} {s:List UInt8} (h:w.ownsRow base 5 1 v n (s.map B)) (hn:s.length=n):∃ a cap g tl,v=.slice a s.length cap∧za3 base w a s g tl:=by
 subst hn
 by_cases h0:0 < s.length
 ·obtain ⟨g,cap,tl,rfl,hb,hg,_⟩:=YK h h0
  exact ⟨_,_,g,tl,rfl,fun _=>⟨rfl,hg,hb⟩⟩
 ·obtain ⟨ao,cap,rfl,_⟩:=zw h
  exact ⟨ao,cap,0,[],rfl,fun h=>absurd h h0⟩
theorem Vo {cp tn n2 c2 N c4:Nat} {k:ku} {a2 a4:Option Addr} {b2:List UInt8} {ss:List Str} (alg:Int) (a1:Option Addr) (n1 c1:Nat) (a5:Option Addr) (n5 c5:Nat) (bo:Option Addr) (mn mc:Nat) (m:List UInt8) (t:Int) (ht:t=(tn:Int)) (hm:m.length=mn) (hmm:mn≤15000) (hmc:mn≤mc) (htn:tn≤16) (hkf:k.Fit) :
  ∃ s c,s.length≤20000∧QA 18 (fun w=>Ctx w cp k tn a2 n2 c2 b2 a4 N c4 ss∧zr w bo (m.map B)) #[.agg (znt alg a1 n1 c1 a2 n2 c2 t a4 N c4 a5 n5 c5).toArray,.pointer (some ⟨cp,0,none⟩),.slice bo mn mc] s c:=by
 subst ht
 by_cases hr:k.room tn mn
 ·refine ⟨zn1 k tn b2 (rowOf ss) m,0,by rw [zob _ _ _ (by rw [hm];exact hr),hm];omega,fun w hw=>(zoe alg a1 n1 c1 a5 n5 c5 bo mn mc m w hw.1 hm hmm hmc hw.2 hr).mono ?_⟩
  rintro e w' ⟨v,rfl,hown,hbel⟩
  obtain ⟨a,cap,g,tl,rfl,hrow⟩:=row_of hown (by rw [zob _ _ _ (by rw [hm];exact hr),hm])
  exact ⟨a,cap,g,tl,rfl,hrow,hbel⟩
 ·have hn:k.alg≠3∧mn+tn < k.least:=by
   unfold ku.room at hr
   omega
  refine ⟨[],7,by simp,fun w hw=>(zo7 alg a1 n1 c1 a5 n5 c5 bo mn mc m w hw.1 hn.1 hm hmm hmc hw.2 hn.2).mono ?_⟩
  rintro e w' ⟨rfl,hbel⟩
  exact ⟨none,0,0,[],rfl,fun h=>absurd h (by simp),hbel⟩
theorem VW {cp tn n2 c2 N c4:Nat} {k:ku} {a2 a4:Option Addr} {b2:List UInt8} {ss:List Str} (alg:Int) (a1:Option Addr) (n1 c1:Nat) (a5:Option Addr) (n5 c5:Nat) (bo:Option Addr) (mn mc:Nat) (m:List UInt8) (t:Int) (ht:t=(tn:Int)) (hm:m.length=mn) (hmm:mn≤15000) (hmc:mn≤mc) (htn:tn≤16) (hkf:k.Fit) :
  ∃ s c,s.length≤20000∧QA 19 (fun w=>Ctx w cp k tn a2 n2 c2 b2 a4 N c4 ss∧zr w bo (m.map B)) #[.agg (znt alg a1 n1 c1 a2 n2 c2 t a4 N c4 a5 n5 c5).toArray,.pointer (some ⟨cp,0,none⟩),.slice bo mn mc] s c:=by
 subst ht
 cases ho:zoa k tn b2 (rowOf ss) m with
 | none =>
  refine ⟨[],9,by simp,fun w hw=>(zon alg a1 n1 c1 a5 n5 c5 bo mn mc m w hw.1 hm hmm hmc hw.2).mono ?_⟩
  rintro e w' ⟨h,hbel⟩
  rw [ho] at h
  obtain rfl:e=.returned (.tuple #[.slice none 0 0,.int .i64 9]):=h
  exact ⟨none,0,0,[],rfl,fun h=>absurd h (by simp),hbel⟩
 | some s =>
  refine ⟨s,0,by have h:=(xc hkf ho).2.1;rw [hm] at h;omega,fun w hw=>(zon alg a1 n1 c1 a5 n5 c5 bo mn mc m w hw.1 hm hmm hmc hw.2).mono ?_⟩
  rintro e w' ⟨h,hbel⟩
  rw [ho] at h
  obtain ⟨ao,rfl,hl,hg⟩:=h
  by_cases h0:0 < s.length
  ·obtain ⟨g,tl,h1,h2,h3⟩:=hg h0
   exact ⟨ao,_,g,tl,rfl,fun _=>⟨h1,h2,h3⟩,hbel⟩
  ·exact ⟨ao,_,0,[],rfl,fun h=>absurd h h0,hbel⟩
theorem za6 (cp n2 c2 N c4:Nat) (k:ku) (a2 a4:Option Addr) (b2:List UInt8) (ss:List Str) (alg:Int) (a1:Option Addr) (n1 c1:Nat) (a5:Option Addr) (n5 c5:Nat) (bo:Option Addr) (mn mc:Nat) (m:List UInt8) (t:Int) (hm:m.length=mn) (hmm:mn≤15000) (hmc:mn≤mc) (hkf:k.Fit) :
  ∃ pre:World→Prop,(∀ w,(∀ tn:Nat,tn≤16→Ctx w cp k tn a2 n2 c2 b2 a4 N c4 ss)→zr w bo (m.map B)→pre w) ∧
   (∃ s c,s.length≤20000∧QA 18 pre #[.agg (znt alg a1 n1 c1 a2 n2 c2 t a4 N c4 a5 n5 c5).toArray,.pointer (some ⟨cp,0,none⟩),.slice bo mn mc] s c) ∧
   (∃ s c,s.length≤20000∧QA 19 pre #[.agg (znt alg a1 n1 c1 a2 n2 c2 t a4 N c4 a5 n5 c5).toArray,.pointer (some ⟨cp,0,none⟩),.slice bo mn mc] s c):=by
 by_cases ht:0≤t∧t≤16
 ·obtain ⟨tn,htn⟩:∃ tn:Nat,t=(tn:Int):=⟨t.toNat,by omega⟩
  exact ⟨fun w=>Ctx w cp k tn a2 n2 c2 b2 a4 N c4 ss∧zr w bo (m.map B),fun w h1 h2=>⟨h1 tn (by omega),h2⟩,Vo alg a1 n1 c1 a5 n5 c5 bo mn mc m t htn hm hmm hmc (by omega) hkf,VW alg a1 n1 c1 a5 n5 c5 bo mn mc m t htn hm hmm hmc (by omega) hkf⟩
 ·have hv:zot t=4:=by unfold zot;rw [if_neg ht]
  refine ⟨fun _=>True,fun _ _ _=>trivial,⟨[],4,by simp,fun w _=>(Ku alg a1 n1 c1 a2 n2 c2 t a4 N c4 a5 n5 c5 cp _ w hv).mono ?_⟩,⟨[],4,by simp,fun w _=>(xU alg a1 n1 c1 a2 n2 c2 t a4 N c4 a5 n5 c5 cp _ w hv).mono ?_⟩⟩
  all_goals (
   rintro e w' ⟨rfl,hbel⟩
   exact ⟨none,0,0,[],rfl,fun h=>absurd h (by simp),hbel⟩)
theorem zfm (alg:Int) (a1:Option Addr) (n1 c1:Nat) (b1:List UInt8) (a2:Option Addr) (n2 c2:Nat) (b2:List UInt8) (t:Int) (a4:Option Addr) (N c4:Nat) (ss:List Str) (a5:Option Addr) (n5 c5:Nat) (b5:List UInt8) (w:World)
  (hb1:b1.length=n1) (hc1:n1≤c1) (hl1:zr w a1 (b1.map B)) (hb2:b2.length=n2) (hc2:n2≤c2) (hl2:zr w a2 (b2.map B)) (hN:ss.length=N) (hNm:N≤maxLen) (hs:xY w a4 ss) (hb5:b5.length=n5) (hc5:n5≤c5) (hm5:c5≤maxLen) (hl5:zr w a5 (b5.map B)) (hg:Globals w) (hbg:qD w) :
  Calls Tryz.prog 8 #[.agg (znt alg a1 n1 c1 a2 n2 c2 t a4 N c4 a5 n5 c5).toArray] w fun e w'=>e=.returned (.bool true)∧Below w.heap.size w w':=by
 have HS:=znq (St.start w)
 have HNN:=znq hN
 have HSS:=znq hs
 have HSL:=znq hs.lies
 have HNM:=znq hNm
 clear hN hs hNm
 by_cases hr:zn0 alg n1 n2 N n5 ss=true
 rotate_left
 ·have HR:=znq (show zn0 alg n1 n2 N n5 ss=false∧True from ⟨by simpa using hr,trivial⟩)
  clear hr
  go_enter Tryz.func8,Tryz.ntmps8
  go_wp2_with (refine zh 25 _ (znt alg a1 n1 c1 a2 n2 c2 t a4 N c4 a5 n5 c5) _ rfl rfl rfl rfl ?_)
  intro w1 hb hbel;have HS:=znq (HS.znr.push hb hbel);clear hb hbel
  go_wp2_with (refine (HS.znr.get 0 rfl).wload rfl rfl rfl yb rfl ?_)
  refine (znu alg a1 n1 c1 a2 n2 c2 t a4 N c4 a5 n5 c5 ss _ HNN.znr HNM.znr (HSL.znr.below HS.znr.bel)).mono ?_
  rintro e w2 ⟨rfl,hbel⟩
  rw [HR.znr.1]
  have HS:=znq (HS.znr.later hbel)
  clear hbel
  go_wp2
  go_ret
  exact ⟨rfl,HS.znr.bel⟩
 have HR:=znq (show zn0 alg n1 n2 N n5 ss=true∧True from ⟨hr,trivial⟩)
 obtain ⟨_,hn1,hw,hn2,hn6,hn5⟩:=of_decide_eq_true hr
 clear hr
 have HW:=znq hw
 have HB1:=znq hb1
 have HL1:=znq hl1
 have HB2:=znq hb2
 have HL2:=znq hl2
 have HB5:=znq hb5
 have HL5:=znq hl5
 have HG:=znq hg
 have HBG:=znq hbg
 obtain ⟨k,hk⟩:∃ k,k=jy alg b1:=⟨_,rfl⟩
 have HK:=znq (show jy alg b1=k∧k.Fit from ⟨hk.symm,by rw [hk];exact we _ _⟩)
 clear hw hb1 hl1 hb2 hl2 hb5 hl5 hg hbg hk
 go_enter Tryz.func8,Tryz.ntmps8
 go_wp2_with (refine zh 25 _ (znt alg a1 n1 c1 a2 n2 c2 t a4 N c4 a5 n5 c5) _ rfl rfl rfl rfl ?_)
 intro w1 hb hbel;have HS:=znq (HS.znr.push hb hbel);clear hb hbel
 go_wp2_with (refine (HS.znr.get 0 rfl).wload rfl rfl rfl yb rfl ?_)
 refine (znu alg a1 n1 c1 a2 n2 c2 t a4 N c4 a5 n5 c5 ss _ HNN.znr HNM.znr (HSL.znr.below HS.znr.bel)).mono ?_
 rintro e w2 ⟨rfl,hbel⟩
 rw [HR.znr.1]
 have HS:=znq (HS.znr.later hbel)
 clear hbel
 go_wp2_with (refine (HS.znr.get 0 rfl).wload rfl rfl rfl yb rfl ?_)
 refine (zn4 alg a1 n1 c1 b1 a2 n2 c2 t a4 N c4 a5 n5 c5 _ HB1.znr HW.znr hc1 (HL1.znr.below HS.znr.bel) (HG.znr.below HS.znr.bel) (HBG.znr.below HS.znr.bel)).mono ?_
 rintro e w3 ⟨cp,rfl,hst,hbel⟩
 rw [HK.znr.1] at hst
 have HCI:=znq hst.self
 have HS:=znq (HS.znr.later hbel)
 clear hst hbel
 have HS:=znq (HS.znr.later (zD w3 (.cells #[] 5)))
 have HCI:=znq (HCI.znr.later (zD w3 (.cells #[] 5)))
 have hx5:=(HS.znr.get 0 rfl).cell 5 _ rfl
 go_wp2_with (at_builtin;refine wpList_plain rfl ?_)
 intro K hK
 obtain ⟨w4,hw4⟩:∃ w4,w4=w3.alloc (.cells #[] 5):=⟨_,rfl⟩
 rw [← hw4] at HS HCI
 rw [← hw4]
 clear hw4
 refine WI (.tmp 26) (.tmp 28) 22 5 (.int .u8 0) 1 rfl Tryz.underlying22 yq rfl _ rfl a5 n5 c5 (b5.map B) rfl (by rw [List.length_map];exact HB5.znr) (HL5.znr.below HS.znr.bel) (zg _) (by omega) rfl (fun am cm w5 hcm hcm2 hlm _ hbel=>hK _ _ ?_)
 clear hK K hx5
 have HLM:=znq hlm
 have HS:=znq (HS.znr.later hbel)
 have HCX:=znq (show ∀ tn:Nat,tn≤16→Ctx w5 cp k tn a2 n2 c2 b2 a4 N c4 ss from fun tn htn=>zpy (c4:=c4) HR.znr.1 htn (HCI.znr.later hbel) HB2.znr hc2 (HL2.znr.below HS.znr.bel) HNN.znr (HSS.znr.below HS.znr.bel))
 obtain ⟨pre,hpre,⟨S1,e1,hb1,hs1⟩,⟨S2,e2,hb2,hs2⟩⟩:=za6 cp n2 c2 N c4 k a2 a4 b2 ss alg a1 n1 c1 a5 n5 c5 am n5 cm b5 t HB5.znr (by omega) hcm HK.znr.2
 have HPRE:=znq (show ∀ w',Below w5.heap.size w5 w'→pre w' from fun w' hb=>hpre w' (fun tn h=>(HCX.znr tn h).later hb) (HLM.znr.below hb))
 have HS1:=znq hs1
 have HBS:=znq (And.intro hb1 hb2)
 have HS2:=znq hs2
 have HB0:=znq (Below.refl w5.heap.size w5)
 have HS0:=znq HS.znr
 clear hlm hbel hpre hs1 hs2 HCI HCX hb1 hb2
 go_wp2_with (refine (HS.znr.get 0 rfl).wload rfl rfl rfl yb rfl ?_)
 refine (HS1.znr _ (HPRE.znr _ HB0.znr)).mono ?_
 rintro e w6 ⟨aa,ca,ga,ta,rfl,hrow,hbel⟩
 have HRA:=znq hrow
 have HLA:=znq (show 0 < S1.length→ga < w6.heap.size from fun h=>(hrow h).2.2.lt)
 have HB1':=znq (HB0.znr.trans hbel)
 have hz6:=hbel.size
 clear hrow hbel
 go_wp2_with (refine ((HS0.znr.later HB1'.znr).get 0 rfl).wload rfl rfl rfl yb rfl ?_)
 refine (HS2.znr _ (HPRE.znr _ HB1'.znr)).mono ?_
 rintro e w7 ⟨ab,cb,gb,tb,rfl,hrow,hbel⟩
 have HRA:=znq (HRA.znr.below hbel)
 have HRB:=znq hrow
 have HB7:=znq (HB1'.znr.trans (hbel.mono hz6))
 have hz7:=hbel.size
 clear hrow hbel
 have F1:=fun (z:zG w7.drew)=>yL z.val aa S1.length ca S1 rfl ((HRA.znr.below ((Below.refl _ _).drew.trans z.later)).lies)
 have F2:=fun (z:zG w7.drew)=>yL z.val ab S2.length cb S2 rfl ((HRB.znr.below ((Below.refl _ _).drew.trans z.later)).lies)
 go_wp2_with fail
 refine zn [0,1,2,3,4,5] (by kernel_rfl) (by kernel_rfl) ?_
 rintro w8 rfl
 refine mqR ?_
 refine zo ?_
 clear F1 F2
 have HRA:=znq (HRA.znr.below (Below.refl w7.heap.size w7).drew)
 have HRB:=znq (HRB.znr.below (Below.refl w7.heap.size w7).drew)
 have HB7:=znq (HB7.znr.drew)
 have hz8:w7.heap.size=w7.drew.heap.size:=rfl
 obtain ⟨p1,hp1⟩:∃ p1,p1=str S1:=⟨_,rfl⟩
 obtain ⟨p2,hp2⟩:∃ p2,p2=str S2:=⟨_,rfl⟩
 have HP:=znq (And.intro hp1 hp2)
 rw [← hp1,← hp2]
 obtain ⟨L1,hL1⟩:∃ x,x=S1.length:=⟨_,rfl⟩
 obtain ⟨L2,hL2⟩:∃ x,x=S2.length:=⟨_,rfl⟩
 have HLL:=znq (show S1.length=L1∧S2.length=L2 from ⟨hL1.symm,hL2.symm⟩)
 have hb1:L1≤20000:=by rw [hL1];exact HBS.znr.1
 have hb2:L2≤20000:=by rw [hL2];exact HBS.znr.2
 rw [← hL1,← hL2]
 clear hp1 hp2 hL1 hL2
 generalize w7.drew=w8 at *
 go_wp2
 have HROW:=znq (show 0 < L1→aa=some ⟨ga,0,none⟩∧w5.heap.size≤ga∧ga < w6.heap.size from fun h=>⟨(HRA.znr (by rw [HLL.znr.1];exact h)).1,(HRA.znr (by rw [HLL.znr.1];exact h)).2.1,HLA.znr (by rw [HLL.znr.1];exact h)⟩)
 have HROX:=znq (show 0 < L2→ab=some ⟨gb,0,none⟩∧w6.heap.size≤gb from fun h=>⟨(HRB.znr (by rw [HLL.znr.2];exact h)).1,(HRB.znr (by rw [HLL.znr.2];exact h)).2.1⟩)
 have h1:L1≤0∨(0 < L1∧aa=some ⟨ga,0,none⟩∧w5.heap.size≤ga∧ga < w6.heap.size):=by
  by_cases h:0 < L1
  ·exact .inr ⟨h,HROW.znr h⟩
  ·exact .inl (by omega)
 have h2:L2≤0∨(0 < L2∧ab=some ⟨gb,0,none⟩∧w6.heap.size≤gb):=by
  by_cases h:0 < L2
  ·exact .inr ⟨h,HROX.znr h⟩
  ·exact .inl (by omega)
 rcases h1 with h1 | ⟨h1,rfl,hga5,hga6⟩
 all_goals rcases h2 with h2 | ⟨h2,rfl,hgb⟩
 all_goals (
  go_loopw [12] (fun c wr=>∃ (i:Nat) (ls:List UInt8),i≤L1∧c=.int .i64 i∧Hid (ls.length=L1∧True)∧Hid (0 < L1→Blk wr ga (ls.map B++ta) 5)∧Hid (0 < L2→Blk wr gb (S2.map B++tb) 5)∧Hid (Below w5.heap.size w5 wr)) (fun c _=>L1 - (intOf c).toNat)
  case atStart=>exact ⟨0,S1,by omega,rfl,⟨HLL.znr.1,trivial⟩,fun h=>(HRA.znr (by rw [HLL.znr.1];exact h)).2.2,fun h=>(HRB.znr (by rw [HLL.znr.2];exact h)).2.2,HB7.znr⟩
  case round =>
   clear HB7
   obtain ⟨i,ls,hi,rfl,HLN,HBA,HBB,HBW⟩:=hrel
   by_cases hlt:i < L1
   ·first
     | (exfalso;omega)
     | (
       have HBK:=znq (HBA.znr (by omega))
       obtain ⟨x,hx⟩:∃ x,ls[i]? = some x:=⟨ls[i]'(by rw [HLN.znr.1];exact hlt),by simp⟩
       have hc:=HBK.znr.cell i (B x) (by rw [List.getElem?_append_left (by rw [List.length_map,HLN.znr.1];exact hlt)];exact zU hx)
       have HLN2:=znq (show (ls.set i (ya x 255)).length=L1∧True from ⟨by rw [List.length_set];exact HLN.znr.1,trivial⟩)
       have HSE:=znq (show (ls.map B++ta).set i (B (ya x 255))=(ls.set i (ya x 255)).map B++ta∧True from ⟨by rw [List.set_append_left _ _ (by rw [List.length_map,HLN.znr.1];exact hlt),ym],trivial⟩)
       have hfit:i < (ls.map B++ta).length:=by rw [List.length_append,List.length_map,HLN.znr.1];omega
       clear hx
       go_wp2_with (refine HBK.znr.wset (i:=i) (v:=B (ya x 255)) rfl rfl rfl rfl zl rfl rfl hfit ?_)
       intro w' hb' ho'
       rw [HSE.znr.1] at hb'
       have HB':=znq hb'
       have HBB2:=znq (show 0 < L2→Blk w' gb (S2.map B++tb) 5 from fun h=>(HBB.znr h).only ho' (by have:=(HROX.znr h).2;omega))
       have HBW2:=znq (zk HBW.znr ho' hga5)
       clear hb' ho' hc
       go_wp2
       go_roundw
       case rel=>exact ⟨i+1,_,by omega,by go_num,HLN2,fun _=>HB'.znr,HBB2,HBW2⟩
       case measure=>simp [intOf];omega)
   ·obtain rfl:L1=i:=by omega
    clear HBA HLN hlt hi
    go_wp2
    go_loopw [13] (fun c wr=>∃ (i:Nat) (ls:List UInt8),i≤L2∧c=.int .i64 i∧Hid (ls.length=L2∧True)∧Hid (0 < L2→Blk wr gb (ls.map B++tb) 5)∧Hid (Below w5.heap.size w5 wr)) (fun c _=>L2 - (intOf c).toNat)
    case atStart=>exact ⟨0,S2,by omega,rfl,⟨HLL.znr.2,trivial⟩,HBB.znr,HBW.znr⟩
    case round =>
     clear HBW HBB
     obtain ⟨i,ls,hi,rfl,HLN,HBB,HBW⟩:=hrel
     by_cases hlt:i < L2
     ·first
       | (exfalso;omega)
       | (
         have HBK:=znq (HBB.znr (by omega))
         obtain ⟨x,hx⟩:∃ x,ls[i]? = some x:=⟨ls[i]'(by rw [HLN.znr.1];exact hlt),by simp⟩
         have hc:=HBK.znr.cell i (B x) (by rw [List.getElem?_append_left (by rw [List.length_map,HLN.znr.1];exact hlt)];exact zU hx)
         have HLN2:=znq (show (ls.set i (ya x 255)).length=L2∧True from ⟨by rw [List.length_set];exact HLN.znr.1,trivial⟩)
         have HSE:=znq (show (ls.map B++tb).set i (B (ya x 255))=(ls.set i (ya x 255)).map B++tb∧True from ⟨by rw [List.set_append_left _ _ (by rw [List.length_map,HLN.znr.1];exact hlt),ym],trivial⟩)
         have hfit:i < (ls.map B++tb).length:=by rw [List.length_append,List.length_map,HLN.znr.1];omega
         clear hx
         go_wp2_with (refine HBK.znr.wset (i:=i) (v:=B (ya x 255)) rfl rfl rfl rfl zl rfl rfl hfit ?_)
         intro w' hb' ho'
         rw [HSE.znr.1] at hb'
         have HB':=znq hb'
         have HBW2:=znq (zk HBW.znr ho' (by omega))
         clear hb' ho' hc
         go_wp2
         go_roundw
         case rel=>exact ⟨i+1,_,by omega,by go_num,HLN2,fun _=>HB'.znr,HBW2⟩
         case measure=>simp [intOf];omega)
     ·obtain rfl:L2=i:=by omega
      clear HBB HLN hlt hi
      go_wp2_with (refine ((HS0.znr.later HBW.znr).get 0 rfl).wload rfl rfl rfl yb rfl ?_)
      refine (HS1.znr _ (HPRE.znr _ HBW.znr)).mono ?_
      rintro e w9 ⟨ac,cc,gc,tc,rfl,hrow,hbel⟩
      have HLC:=znq hrow.lies
      have hzr:=HBW.znr.size
      have HBX:=znq (HBW.znr.trans (hbel.mono hzr))
      clear hrow hbel
      go_wp2_with (refine ((HS0.znr.later HBX.znr).get 0 rfl).wload rfl rfl rfl yb rfl ?_)
      refine (HS2.znr _ (HPRE.znr _ HBX.znr)).mono ?_
      rintro e w10 ⟨ad,cd,gd,td,rfl,hrow,hbel⟩
      have HLD:=znq hrow.lies
      have HLC:=znq (HLC.znr.below hbel)
      have hzx:=HBX.znr.size
      have HBY:=znq (HBX.znr.trans (hbel.mono hzx))
      clear hrow hbel
      have HSY:=znq (HS0.znr.later HBY.znr)
      have hx5:=(HSY.znr.get 0 rfl).cell 5 _ rfl
      have G1:=yL w10 am n5 cm b5 HB5.znr (HLM.znr.below HBY.znr)
      have G2:=yL w10 a5 n5 c5 b5 HB5.znr (HL5.znr.below HSY.znr.bel)
      have G3:=yL w10 ac S1.length cc S1 rfl HLC.znr
      have G4:=yL w10 ad S2.length cd S2 rfl HLD.znr
      rw [← HP.znr.1] at G3
      rw [← HP.znr.2] at G4
      rw [HLL.znr.1] at G3 ⊢
      rw [HLL.znr.2] at G4 ⊢
      generalize str b5=s1 at *
      go_wp2_with fail
      refine (zn3 _ (HG.znr.below HSY.znr.bel) (HBG.znr.below HSY.znr.bel)).mono ?_
      rintro e w11 ⟨rfl,hbel⟩
      have HSY:=znq (HSY.znr.later hbel)
      clear hbel G1 G2 G3 G4 hx5
      go_wp2
      go_ret
      exact ⟨rfl,HSY.znr.bel⟩)
end Go.Proofs.YtjaioajjfiaheaaGreatDoor

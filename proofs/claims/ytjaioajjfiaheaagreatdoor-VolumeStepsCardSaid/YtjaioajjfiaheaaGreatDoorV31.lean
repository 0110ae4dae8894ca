/-
  Texts of this claim, one behind the other.
-/
import Derived.Test.YtjaioajjfiaheaaGreatDoorV1
import Derived.Test.YtjaioajjfiaheaaGreatDoorV28
import Derived.Lib.Hide
set_option linter.unusedVariables false
set_option linter.unusedSimpArgs false
set_option maxHeartbeats 16000000
set_option maxRecDepth 100000
open Nat renaming le_trans→uj
namespace Go.Proofs.YtjaioajjfiaheaaGreatDoor
open RowKit Mem Ops Cells Oct Gf Trn Aes Ring Ezk Blake Adi Hct Wid Vol Fl ru
attribute [local irreducible] zE zN zO zM yu
theorem vsteps_law (alg size secs:Int) (a1:Option Addr) (n1 c1:Nat) (key:List UInt8) (a2:Option Addr) (n2 c2:Nat) (xs:List zmm) (a3:Option Addr) (n3 c3:Nat) (zaC:List UInt8) (w:World) (hkn:key.length=n1) (hkc:n1≤c1) (hkl:zr w a1 (key.map B)) (hxn:xs.length=n2) (hnm:n2≤maxLen) (hx:zlo w a2 xs) (hg:pQ w) (hbg:qD w) (zhV:zaC.length=n3) (zeX:n3≤c3) (zhW:zr w a3 (zaC.map B)) :
  Calls Tryz.prog 10 #[.agg (zik alg size secs a1 n1 c1 a2 n2 c2).toArray,.slice a3 n3 c3] w fun e w'=>e=.returned (.bool true)∧Below w.heap.size w w':=by
 have zdE:=znq zhV
 have zeY:=znq zhW
 have zaP:nU alg size secs n3=0∨(nU alg size secs n3 != 0)=true:=by
  by_cases h:nU alg size secs n3=0
  ·exact .inl h
  ·exact .inr (by simpa using h)
 have hlong:decide ((n3:Int) > 200)=true∨decide ((n3:Int) > 200)=false:=by cases decide ((n3:Int) > 200) <;> simp
 clear zhV zhW
 have HS:=znq (St.start w)
 have HKN:=znq hkn
 have HKL:=znq hkl
 have HXN:=znq hxn
 have HX:=znq hx
 have HG:=znq hg
 have HBG:=znq hbg
 have HNM:=znq hnm
 have hwz:nU alg size secs n1=0∨(nU alg size secs n1 != 0)=true:=by
  by_cases h:nU alg size secs n1=0
  ·exact .inl h
  ·exact .inr (by simpa using h)
 clear hkn hkl hxn hx hg hbg hnm
 go_enter Tryz.func10,Tryz.ntmps10
 go_wp2_with (refine zh 47 _ (zik alg size secs a1 n1 c1 a2 n2 c2) _ rfl rfl rfl rfl ?_)
 intro w1 hb hbel;have HS:=znq (HS.znr.push hb hbel);clear hb hbel
 go_wp2_with (refine (HS.znr.get 0 rfl).mP rfl rfl rfl zhr rfl ?_)
 refine (zq9 alg size secs a1 n1 c1 a2 n2 c2 xs _ HXN.znr HNM.znr (HX.znr.below HS.znr.bel)).mono ?_
 rintro e w2 ⟨⟨b,rfl,pY⟩,hbel⟩
 have HS:=znq (HS.znr.later hbel)
 clear hbel
 cases b
 ·clear hwz pY
  go_wp2
  go_ret
  exact ⟨rfl,HS.znr.bel⟩
 have h12:=pY rfl
 have hx0:=(HS.znr.get 0 rfl).cell 0 _ rfl
 have hx1:=(HS.znr.get 0 rfl).cell 1 _ rfl
 have hx2:=(HS.znr.get 0 rfl).cell 2 _ rfl
 have hx3:=(HS.znr.get 0 rfl).cell 3 _ rfl
 clear pY
 go_wp2_with fail
 refine (zlk alg size secs a1 n1 c1 _).mono ?_
 rintro e w3 ⟨rfl,hbel⟩
 have HS:=znq (HS.znr.later hbel)
 clear hbel hx0 hx1 hx2 hx3
 rcases hwz with hwz | hwz
 rotate_left
 ·go_wp2
  go_ret
  exact ⟨rfl,HS.znr.bel⟩
 obtain ⟨sz,sc,hsz,hsc,hz,hs,hw⟩:=zmq hwz
 rw [hwz]
 subst hsz hsc
 have HW:=znq hw
 clear hwz hw
 have hx0:=(HS.znr.get 0 rfl).cell 0 _ rfl
 have hx1:=(HS.znr.get 0 rfl).cell 1 _ rfl
 have hx2:=(HS.znr.get 0 rfl).cell 2 _ rfl
 go_wp2_with fail
 refine (zlk alg sz sc a3 n3 c3 _).mono ?_
 rintro e w3' ⟨rfl,hbel⟩
 have HS:=znq (HS.znr.later hbel)
 clear hbel hx0 hx1 hx2
 rcases zaP with zaP | zaP
 rotate_left
 ·go_wp2
  go_ret
  exact ⟨rfl,HS.znr.bel⟩
 rw [zaP]
 rcases hlong with hlong | hlong
 ·clear zaP
  go_wp2
  go_ret
  exact ⟨rfl,HS.znr.bel⟩
 have HW3:=znq (zsb zaP)
 clear zaP
 go_wp2_with (refine (HS.znr.get 0 rfl).mP rfl rfl rfl zhr rfl ?_)
 have zcH:=(HS.znr.get 0 rfl).lt
 refine (zng [] alg sz sc a1 n1 c1 key a2 n2 c2 _ hz hs HW.znr HKN.znr hkc (HKL.znr.below HS.znr.bel) (HG.znr.below HS.znr.bel) (HBG.znr.below HS.znr.bel) (by simp)).mono ?_
 rintro e w4 ⟨vp,sp,rfl,rU,hbel⟩
 obtain ⟨q,p,hvx,hvp,hsp⟩:=zr9 rU
 have HV:=znq hvx
 have hz3:=HS.znr.size
 have HS:=znq (HS.znr.later hbel)
 have hvl:=hvx.lt
 have zlP:w.heap.size≠vp∧w.heap.size≠sp:=by omega
 have sV:w.heap.size≤vp:=by omega
 have sW:w.heap.size≤sp:=by omega
 clear rU hbel hvx
 clear hlong
 obtain ⟨v0,hv0⟩:∃ v,v=zim alg sz sc key:=⟨_,rfl⟩
 have H0:=znq (show v0.pg∧v0.size=sz∧v0.mK=sc∧v0.reads=0∧v0.writes=0∧(∀ m,m < sc→v0.sec m=zf sz)∧v0.next=none∧v0.now=jy alg key∧v0.alg=alg from ⟨by rw [hv0];exact zlp hz hs,by rw [hv0];rfl,by rw [hv0];rfl,by rw [hv0];rfl,by rw [hv0];rfl,fun m hm=>by rw [hv0];exact zq0 hz.1 hm,by rw [hv0];rfl,by rw [hv0];rfl,by rw [hv0];rfl⟩)
 rw [← hv0] at HV
 clear hv0
 have hx4:=(HS.znr.get 0 rfl).cell 4 _ rfl
 go_wp2
 clear hx4
 go_loopw [7] (fun c wr=>∃ (j:Nat) (v:Vol),j≤n2∧c=.int .i64 j∧Hid (v.pg∧v.size=sz∧v.mK=sc∧v.reads≤1000*j∧v.writes≤1000*j∧v.next=none∧v.alg=alg)∧Hid (kq [vp,sp] q p vp sp wr v)∧Hid (St w w.heap.size wr [(w.heap.size,zik alg sz sc a1 n1 c1 a2 n2 c2,47)])) (fun c _=>n2 - (intOf c).toNat)
 case atStart=>exact ⟨0,v0,by omega,rfl,⟨H0.znr.1,H0.znr.2.1,H0.znr.2.2.1,by rw [H0.znr.2.2.2.1];omega,by rw [H0.znr.2.2.2.2.1];omega,H0.znr.2.2.2.2.2.2.1,H0.znr.2.2.2.2.2.2.2.2⟩,HV,HS⟩
 case round =>
  clear HS HV H0
  obtain ⟨j,v,hj,rfl,HO,HV,HS⟩:=hrel
  have hx4:=(HS.znr.get 0 rfl).cell 4 _ rfl
  by_cases hlt:j < n2
  ·obtain ⟨x,hxi⟩:∃ x,xs[j]? = some x:=⟨xs[j]'(by rw [HXN.znr];exact hlt),by simp⟩
   obtain ⟨zeG,ab,zbH,rfl,_,hr⟩:=(HX.znr.below HS.znr.bel).at hxi
   obtain ⟨rO,_⟩:=HX.znr.at hxi
   have HXI:=znq (show x.bs.length≤x.cap∧zr w x.ao (x.bs.map B) from ⟨rO.cap.1,rO.lies⟩)
   have hc0:wr.cell? ⟨ab,zbH+j*4,none⟩=some (.int .i64 x.kind):=hr 0 (.int .i64 x.kind) rfl
   have hc1:=hr 1 (.int .i64 x.n) rfl
   have hc2:=hr 2 (.slice x.ao x.bs.length x.cap) rfl
   have hc3:=hr 3 (B x.by') rfl
   have HXX:=znq (And.intro hxi trivial)
   clear zeG rO hr hxi
   have hds:=zrw HO.znr.1 (pW x.kind) x.n x.bs x.by'
   obtain ⟨r,hr⟩:∃ r,r=v.act (pW x.kind) x.n x.bs x.by':=⟨_,rfl⟩
   rw [← hr] at hds
   have HRR:=znq hr
   have HDS:=znq hds
   clear hr hds
   go_wp2_with fail
   refine (zqw x _).mono ?_
   rintro e w8 ⟨rfl,hbel⟩
   have HV:=znq (HV.znr.below hbel)
   have HS:=znq (HS.znr.later hbel)
   clear hbel hx4 hc0 hc1 hc2 hc3
   have hkd:∃ kd,kd=pW x.kind:=⟨_,rfl⟩
   obtain ⟨kd,hkd⟩:=hkd
   have HKD:=znq hkd
   rw [← hkd]
   by_cases h4:kd < 4
   rotate_left
   ·have d4:decide ((kd:Int) < 4)=false:=by simp;omega
    clear hkd
    go_wp2
    go_roundw
    case rel=>exact ⟨j+1,v,by omega,by go_num,⟨HO.znr.1,HO.znr.2.1,HO.znr.2.2.1,by have:=HO.znr.2.2.2.1;omega,by have:=HO.znr.2.2.2.2.1;omega,HO.znr.2.2.2.2.2.1,HO.znr.2.2.2.2.2.2⟩,HV,HS⟩
    case measure=>simp [intOf];omega
   have d4:decide ((kd:Int) < 4)=true:=by simp;omega
   have H4:=znq h4
   clear hkd h4
   obtain ⟨_,ab',zhU,he,_,hr⟩:=(HX.znr.below HS.znr.bel).at HXX.znr.1
   cases he
   have hc0:w8.cell? ⟨ab,zbH+j*4,none⟩=some (.int .i64 x.kind):=hr 0 (.int .i64 x.kind) rfl
   have hc1:=hr 1 (.int .i64 x.n) rfl
   have hc2:=hr 2 (.slice x.ao x.bs.length x.cap) rfl
   have hc3:=hr 3 (B x.by') rfl
   clear hr
   have hx4:=(HS.znr.get 0 rfl).cell 4 _ rfl
   go_wp2_with fail
   refine (zsa x HV.znr ⟨by have:=HO.znr.2.2.2.1;omega,by have:=HO.znr.2.2.2.2.1;omega⟩ (HBG.znr.below HS.znr.bel) HXI.znr.1 (zq7 HXI.znr.2 HS.znr.bel (fun i hi=>by simp at hi;omega))).mono ?_
   rintro e w9 ⟨rfl,hv,hc⟩
   rw [← HRR.znr] at hv ⊢
   have HV:=znq hv
   have HS:=znq (HS.znr.chg hc sV sW (by simp;omega))
   clear hv hc hx4 hc0 hc1 hc2 hc3
   obtain ⟨u,hu⟩:∃ u,u=r.1:=⟨_,rfl⟩
   have HU:=znq (show u.pg∧u.size=sz∧u.mK=sc∧u.reads≤1000*(j+1)∧u.writes≤1000*(j+1)∧u.next=none∧u.alg=alg from by
    obtain ⟨h1,h2,h3,h4,h5,h6,h7⟩:=HO.znr
    have hd:=HDS.znr
    rw [hu]
    exact ⟨hd.pq,by rw [hd.form.2.1];exact h2,by rw [hd.form.2.2];exact h3,uj hd.reads (by omega),uj hd.writes (by omega),by rw [(hd.next (.inl (by rw [← HKD.znr];exact H4.znr))).1];exact h6,by rw [hd.form.1];exact h7⟩)
   rw [← hu] at HV
   clear hu HRR HDS
   go_wp2
   go_roundw
   case rel=>exact ⟨j+1,u,by omega,by go_num,HU,HV,HS⟩
   case measure=>simp [intOf];omega
  obtain rfl:n2=j:=by omega
  have hx2:=(HS.znr.get 0 rfl).cell 2 _ rfl
  go_wp2_with (at_make;refine jJ 52 9 (.string ByteArray.empty) 16 sc rfl rfl rfl rfl Tryz.underlying52 zrn rfl rfl rfl (by omega) (by unfold maxLen;omega) ?_)
  intro w5 hb hbel
  have hg5:=hb.lt
  have hvl':=HV.znr.lt
  have HVG:=znq (HV.znr.wider (b:=wr.heap.size) hbel (Nat.le_refl _) hg5 HV.znr.tabs)
  have HS:=znq (HS.znr.push hb hbel)
  have hbz:=(HS.znr.get 1 rfl).lt
  have hbg:w.heap.size < wr.heap.size:=by omega
  clear hb hbel hx2 hx4 HV
  generalize wr.heap.size=g at *
  go_wp2
  go_loopw [10] (fun c wr=>∃ (n:Nat) (u:Vol) (ls:List Value),n≤sc∧c=.int .i64 n∧Hid (u.pg∧u.size=sz∧u.mK=sc∧u.reads≤1000*n2+n∧u.writes≤1000*n2∧u.next=none∧u.alg=alg)∧Hid (ls.length=sc∧∀ m,m < n→ls[m]? = some (SV (u.sec m)))∧Hid (kq [g,vp,sp] q p vp sp wr u)∧Hid (St w w.heap.size wr [(g,ls,9),(w.heap.size,zik alg sz sc a1 n1 c1 a2 n2 c2,47)])) (fun c _=>sc - (intOf c).toNat)
  case atStart=>exact ⟨0,v,_,by omega,rfl,HO,⟨by simp,fun m hm=>absurd hm (by omega)⟩,HVG,HS⟩
  case round =>
   clear HS HVG HO
   obtain ⟨n,u,ls,hn,rfl,HU,HL,HV,HS⟩:=hrel
   by_cases sO:n < sc
   ·have hns:n < u.mK:=by rw [HU.znr.2.2.1];exact sO
    have hbd:u.reads≤1000000∧u.writes≤1000000:=⟨by have:=HU.znr.2.2.2.1;omega,by have:=HU.znr.2.2.2.2.1;omega⟩
    have HNS:=znq (And.intro hns hbd)
    clear hns hbd
    go_wp2_with fail
    refine (zrf n HV.znr HNS.znr.1 HNS.znr.2).mono ?_
    rintro e w13 ⟨ao,cap,rfl,pU,hv,hc⟩
    have hrd:=zqy HU.znr.1 HNS.znr.1
    obtain ⟨u2,hu2⟩:∃ u2,u2=(u.read n).1:=⟨_,rfl⟩
    rw [← hu2] at hv hrd
    have HU2:=znq (show u2.pg∧u2.size=sz∧u2.mK=sc∧u2.reads≤1000*n2+(n+1)∧u2.writes≤1000*n2∧u2.next=none∧u2.alg=alg from ⟨hrd.2.1,by rw [hrd.2.2.1.2.1];exact HU.znr.2.1,by rw [hrd.2.2.1.2.2];exact HU.znr.2.2.1,by rw [hrd.2.2.2.1];have:=HU.znr.2.2.2.1;omega,by rw [hrd.2.2.2.2.1];exact HU.znr.2.2.2.2.1,by rw [hrd.2.2.2.2.2.2.2.1];exact HU.znr.2.2.2.2.2.1,by rw [hrd.2.2.1.1];exact HU.znr.2.2.2.2.2.2⟩)
    have HSE:=znq (show ∀ m,u2.sec m=u.sec m from hrd.2.2.2.2.2.1)
    have HV:=znq hv
    have HS:=znq (HS.znr.chg hc sV sW (by simp;omega))
    have F1:=yL w13 ao u.size cap (u.sec n) (HU.znr.1.nV HNS.znr.1) pU.slice.2
    have hfit:n < ls.length:=by rw [HL.znr.1];exact sO
    generalize u.size=us1 at *
    clear pU hv hc hrd hu2
    go_wp2_with (refine (HS.znr.get 0 rfl).ry (i:=n) (v:=SV (u.sec n)) rfl rfl rfl rfl zrb rfl rfl hfit ?_)
    intro w14 zbP zcP
    have HS:=znq (HS.znr.change 0 zbP zcP (by omega) (by simp;omega))
    have HV:=znq (HV.znr.only zcP (by simp) (by omega) (by omega))
    obtain ⟨ls2,tJ⟩:∃ l,l=ls.set n (SV (u.sec n)):=⟨_,rfl⟩
    have HL2:=znq (show ls2.length=sc∧∀ m,m < n+1→ls2[m]? = some (SV (u2.sec m)) from ⟨by rw [tJ,List.length_set];exact HL.znr.1,fun m hm=>by
     rw [HSE.znr m,tJ]
     by_cases e:n=m
     ·subst e;rw [List.getElem?_set_self hfit]
     ·rw [List.getElem?_set_ne e];exact HL.znr.2 m (by omega)⟩)
    rw [← tJ] at HS
    clear tJ zbP zcP F1 hfit
    go_wp2
    go_roundw
    case rel=>exact ⟨n+1,u2,ls2,by omega,by go_num,HU2,HL2,HV,HS⟩
    case measure=>simp [intOf];omega
   obtain rfl:sc=n:=by omega
   obtain ⟨k,hk⟩:∃ k,k=jy alg zaC:=⟨_,rfl⟩
   have HST:=znq (show u.start zaC=(u.begin' k,0) from by unfold Vol.start;rw [HU.znr.2.2.2.2.2.1];simp only;rw [HU.znr.2.2.2.2.2.2,zdE.znr,if_pos HW3.znr,hk])
   have HKF:=znq (show zq3 u.size k from by rw [hk];exact znp _ _ HU.znr.1.size.1)
   clear hk
   go_wp2_with fail
   refine (ztg a3 n3 c3 zaC HV.znr zdE.znr zeX (zeY.znr.below HS.znr.bel) (HBG.znr.below HS.znr.bel)).mono ?_
   rintro e w15 ⟨rfl,hv,hc⟩
   rw [HST.znr] at hv ⊢
   have HBO:=znq (HU.znr.1.begin' HKF.znr)
   have HBS:=znq (show ∀ m,(u.begin' k).sec m=u.sec m from fun m=>zrp HU.znr.2.2.2.2.2.1 k m)
   obtain ⟨v1,hv1⟩:∃ v1,v1=u.begin' k:=⟨_,rfl⟩
   have H1:=znq (show v1.pg∧v1.size=sz∧v1.mK=sc∧v1.reads≤1000*n2+sc∧v1.writes≤1000*n2∧v1.next=some k∧v1.moved=0∧(∀ m,v1.sec m=u.sec m) from by
    rw [hv1]
    exact ⟨HBO.znr,HU.znr.2.1,HU.znr.2.2.1,HU.znr.2.2.2.1,HU.znr.2.2.2.2.1,rfl,rfl,HBS.znr⟩)
   rw [← hv1] at hv
   have HV:=znq hv
   have HS:=znq (HS.znr.chg hc sV sW (by simp;omega))
   have HL:=znq (show ls.length=sc∧∀ m,m < sc→ls[m]? = some (SV (v1.sec m)) from ⟨HL.znr.1,fun m hm=>by rw [H1.znr.2.2.2.2.2.2.2 m];exact HL.znr.2 m hm⟩)
   have HSB:=znq (show v1.start zaC=(v1,12)∧v1.all zaC=(v1,12) from by unfold Vol.start Vol.all;rw [H1.znr.2.2.2.2.2.1];exact ⟨rfl,rfl⟩)
   clear hv hc hv1 HU HST HBO HBS
   go_wp2_with fail
   refine (ztg a3 n3 c3 zaC HV.znr zdE.znr zeX (zeY.znr.below HS.znr.bel) (HBG.znr.below HS.znr.bel)).mono ?_
   rintro e w16 ⟨rfl,hv,hc⟩
   rw [HSB.znr.1] at hv ⊢
   have HV:=znq hv
   have HS:=znq (HS.znr.chg hc sV sW (by simp;omega))
   clear hv hc
   go_wp2_with fail
   refine (zhS a3 n3 c3 zaC HV.znr zdE.znr zeX (zeY.znr.below HS.znr.bel) (HBG.znr.below HS.znr.bel)).mono ?_
   rintro e w17 ⟨rfl,hv,hc⟩
   rw [HSB.znr.2] at hv ⊢
   have HV:=znq hv
   have HS:=znq (HS.znr.chg hc sV sW (by simp;omega))
   clear hv hc
   go_wp2
   go_loopw [13] (fun c wr=>∃ (n:Nat) (u:Vol),n≤sc∧c=.int .i64 n∧Hid (u.pg∧u.size=sz∧u.mK=sc∧u.reads≤20000+1000*n∧u.writes≤20000∧u.next=(if n=sc then none else some k)∧(n < sc→u.moved=n))∧Hid (∀ m,m < sc→ls[m]? = some (SV (u.sec m)))∧Hid (kq [g,vp,sp] q p vp sp wr u)∧Hid (St w w.heap.size wr [(g,ls,9),(w.heap.size,zik alg sz sc a1 n1 c1 a2 n2 c2,47)])) (fun c _=>sc - (intOf c).toNat)
   case atStart=>exact ⟨0,v1,by omega,rfl,⟨H1.znr.1,H1.znr.2.1,H1.znr.2.2.1,by have:=H1.znr.2.2.2.1;omega,by have:=H1.znr.2.2.2.2.1;omega,by rw [if_neg (by omega)];exact H1.znr.2.2.2.2.2.1,fun _=>H1.znr.2.2.2.2.2.2.1⟩,HL.znr.2,HV,HS⟩
   case round =>
    clear HS HV H1 HSB HL
    obtain ⟨n,u,hn,rfl,HU,HL,HV,HS⟩:=hrel
    by_cases sO:n < sc
    rotate_left
    ·obtain rfl:sc=n:=by omega
     have HNX:=znq (show u.next=none∧True from ⟨by have h:=HU.znr.2.2.2.2.2.1;rwa [if_pos rfl] at h,trivial⟩)
     go_wp2_with fail
     refine (zt7 HV.znr HNX.znr.1).mono ?_
     rintro e w18 ⟨rfl,rfl⟩
     go_wp2_with fail
     refine (zra _ (HG.znr.below HS.znr.bel) (HBG.znr.below HS.znr.bel)).mono ?_
     rintro e w9 ⟨rfl,hbel⟩
     have HS:=znq (HS.znr.later hbel)
     clear hbel
     go_wp2
     go_ret
     exact ⟨rfl,HS.znr.bel⟩
    have HNX:=znq (show u.next=some k∧u.moved=n from ⟨by have h:=HU.znr.2.2.2.2.2.1;rwa [if_neg (by omega)] at h,HU.znr.2.2.2.2.2.2 sO⟩)
    obtain ⟨left,hleft⟩:∃ l,l=sc - n - 1:=⟨_,rfl⟩
    have HLF:=znq (show u.mK - u.moved - 1=left from by rw [HU.znr.2.2.1,HNX.znr.2,hleft])
    have e1:(sc:Int) - (n:Int) - 1=(left:Int):=by omega
    go_wp2_with fail
    refine (zhT k HV.znr HNX.znr.1).mono ?_
    rintro e w18 ⟨rfl,hv,hc⟩
    rw [HLF.znr]
    obtain ⟨f0,f1,f2,f3,f4,f5⟩:=zrq (v:=u) k
    obtain ⟨_,_,_,f6,f7⟩:=zq5 u k
    have hok:=HU.znr.1.step HNX.znr.1
    have zlR:=fun m (hm:m < sc)=>zrj HU.znr.1 HNX.znr.1 (m:=m) (by rw [HU.znr.2.2.1];exact hm)
    obtain ⟨u1,hu1⟩:∃ u1,u1=u.step k:=⟨_,rfl⟩
    rw [← hu1] at hv f0 f1 f2 f3 f4 f5 f6 f7 hok zlR
    have HU1:=znq (show u1.pg∧u1.size=sz∧u1.mK=sc∧u1.reads≤20000+1000*n+0∧u1.writes≤20000∧u1.next=(if n+1=sc then none else some k)∧(n+1 < sc→u1.moved=n+1) from
     ⟨hok,by rw [f1];exact HU.znr.2.1,by rw [f2];exact HU.znr.2.2.1,by rw [f6];exact HU.znr.2.2.2.1,by rw [f7];exact HU.znr.2.2.2.2.1,by rw [f4,HNX.znr.2,HU.znr.2.2.1],fun _=>by rw [f3,HNX.znr.2]⟩)
    have HL1:=znq (show ∀ m,m < sc→ls[m]? = some (SV (u1.sec m)) from fun m hm=>by rw [zlR m hm];exact HL.znr m hm)
    have HV:=znq hv
    have HS:=znq (HS.znr.chg hc sV sW (by simp;omega))
    have hb12':sc≤256:=by omega
    have hleb:left≤256:=by omega
    clear hv hc hu1 f0 f1 f2 f3 f4 f5 f6 f7 hok zlR HU HL HNX HLF hleft
    go_wp2
    go_loopw [16] (fun c wr=>∃ (kk:Nat) (u:Vol),kk≤sc∧c=.int .i64 kk∧Hid (u.pg∧u.size=sz∧u.mK=sc∧u.reads≤20000+1000*n+kk∧u.writes≤20000∧u.next=(if n+1=sc then none else some k)∧(n+1 < sc→u.moved=n+1))∧Hid (∀ m,m < sc→ls[m]? = some (SV (u.sec m)))∧Hid (kq [g,vp,sp] q p vp sp wr u)∧Hid (St w w.heap.size wr [(g,ls,9),(w.heap.size,zik alg sz sc a1 n1 c1 a2 n2 c2,47)])) (fun c _=>sc - (intOf c).toNat)
    case atStart=>exact ⟨0,u1,by omega,rfl,HU1,HL1,HV,HS⟩
    case round =>
     clear HS HV HU1 HL1
     obtain ⟨kk,u,hkk,rfl,HU,HL,HV,HS⟩:=hrel
     by_cases hklt:kk < sc
     ·have hns:kk < u.mK:=by rw [HU.znr.2.2.1];exact hklt
      have hbd:u.reads≤1000000∧u.writes≤1000000:=⟨by have:=HU.znr.2.2.2.1;omega,by have:=HU.znr.2.2.2.2.1;omega⟩
      have HNS:=znq (And.intro hns hbd)
      clear hns hbd
      go_wp2_with fail
      refine (zrf kk HV.znr HNS.znr.1 HNS.znr.2).mono ?_
      rintro e w13 ⟨ao,cap,rfl,pU,hv,hc⟩
      have hrd:=zqy HU.znr.1 HNS.znr.1
      obtain ⟨u2,hu2⟩:∃ u2,u2=(u.read kk).1:=⟨_,rfl⟩
      rw [← hu2] at hv hrd
      have HU2:=znq (show u2.pg∧u2.size=sz∧u2.mK=sc∧u2.reads≤20000+1000*n+(kk+1)∧u2.writes≤20000∧u2.next=(if n+1=sc then none else some k)∧(n+1 < sc→u2.moved=n+1) from ⟨hrd.2.1,by rw [hrd.2.2.1.2.1];exact HU.znr.2.1,by rw [hrd.2.2.1.2.2];exact HU.znr.2.2.1,by rw [hrd.2.2.2.1];have:=HU.znr.2.2.2.1;omega,by rw [hrd.2.2.2.2.1];exact HU.znr.2.2.2.2.1,by rw [hrd.2.2.2.2.2.2.2.1];exact HU.znr.2.2.2.2.2.1,fun h=>by rw [hrd.2.2.2.2.2.2.2.2.2];exact HU.znr.2.2.2.2.2.2 h⟩)
      have HL2:=znq (show ∀ m,m < sc→ls[m]? = some (SV (u2.sec m)) from fun m hm=>by rw [hrd.2.2.2.2.2.1 m];exact HL.znr m hm)
      have HV:=znq hv
      have HS:=znq (HS.znr.chg hc sV sW (by simp;omega))
      have HLR:=znq pU.slice.2
      have HLN:=znq (HU.znr.1.nV HNS.znr.1)
      have F1:=fun (z:zG w13.drew)=>yL z.val ao u.size cap (u.sec kk) HLN.znr (HLR.znr.below ((Below.refl w13.heap.size w13).drew.trans z.later))
      have F2:=fun (z:zG w13.drew)=>((HS.znr.drew.later z.later).get 0 rfl).cell kk (.string (str (u.sec kk))) (HL.znr kk hklt)
      generalize str (u.sec kk)=s1 at *
      generalize u.size=us1 at *
      clear pU hv hc hrd hu2
      go_wp2_with fail
      refine zn [0,1,2,3,4,5,6,7,8,9,10] (by kernel_rfl) (by kernel_rfl) ?_
      rintro w14 rfl
      refine mqR ?_
      clear F1 F2
      have HS:=znq HS.znr.drew
      have HV:=znq (HV.znr.below (Below.refl w13.heap.size w13).drew)
      refine zo ?_
      go_wp2
      go_roundw
      case rel=>exact ⟨kk+1,u2,by omega,by go_num,HU2,HL2,HV,HS⟩
      case measure=>simp [intOf];omega
     ·obtain rfl:sc=kk:=by omega
      go_wp2
      go_roundw
      case rel=>exact ⟨n+1,u,by omega,by go_num,⟨HU.znr.1,HU.znr.2.1,HU.znr.2.2.1,by have:=HU.znr.2.2.2.1;omega,HU.znr.2.2.2.2.1,HU.znr.2.2.2.2.2.1,HU.znr.2.2.2.2.2.2⟩,HL,HV,HS⟩
      case measure=>simp [intOf];omega
end Go.Proofs.YtjaioajjfiaheaaGreatDoor

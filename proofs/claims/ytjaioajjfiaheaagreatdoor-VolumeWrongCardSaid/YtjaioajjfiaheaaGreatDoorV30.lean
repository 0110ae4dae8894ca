/-
  Texts of this claim, one behind the other.
-/
import Derived.Test.YtjaioajjfiaheaaGreatDoorV1
import Derived.Test.YtjaioajjfiaheaaGreatDoorV28
import Derived.Lib.Hide
set_option linter.unusedVariables false
set_option linter.unusedSimpArgs false
set_option maxHeartbeats 16000000
set_option maxRecDepth 100000
open Nat renaming le_trans→uj
namespace Go.Proofs.YtjaioajjfiaheaaGreatDoor
open RowKit Mem Ops Cells Oct Gf Trn Aes Ring Ezk Blake Adi Hct Wid Vol Fl ru
attribute [local irreducible] zE zN zO zM yu
theorem vwrong_law (alg size secs:Int) (a1:Option Addr) (n1 c1:Nat) (key:List UInt8) (a2:Option Addr) (n2 c2:Nat) (xs:List zmm) (w:World) (hkn:key.length=n1) (hkc:n1≤c1) (hkl:zr w a1 (key.map B)) (hxn:xs.length=n2) (hnm:n2≤maxLen) (hx:zlo w a2 xs) (hg:pQ w) (hbg:qD w) :
  Calls Tryz.prog 13 #[.agg (zik alg size secs a1 n1 c1 a2 n2 c2).toArray] w fun e w'=>e=.returned (.bool true)∧Below w.heap.size w w':=by
 have HS:=znq (St.start w)
 have HKN:=znq hkn
 have HKL:=znq hkl
 have HXN:=znq hxn
 have HX:=znq hx
 have HG:=znq hg
 have HBG:=znq hbg
 have HNM:=znq hnm
 have hwz:nU alg size secs n1=0∨(nU alg size secs n1 != 0)=true:=by
  by_cases h:nU alg size secs n1=0
  ·exact .inl h
  ·exact .inr (by simpa using h)
 clear hkn hkl hxn hx hg hbg hnm
 go_enter Tryz.func13,Tryz.ntmps13
 go_wp2_with (refine zh 47 _ (zik alg size secs a1 n1 c1 a2 n2 c2) _ rfl rfl rfl rfl ?_)
 intro w1 hb hbel;have HS:=znq (HS.znr.push hb hbel);clear hb hbel
 go_wp2_with (refine (HS.znr.get 0 rfl).mP rfl rfl rfl zhr rfl ?_)
 refine (zq9 alg size secs a1 n1 c1 a2 n2 c2 xs _ HXN.znr HNM.znr (HX.znr.below HS.znr.bel)).mono ?_
 rintro e w2 ⟨⟨b,rfl,pY⟩,hbel⟩
 have HS:=znq (HS.znr.later hbel)
 clear hbel
 cases b
 ·clear hwz pY
  go_wp2
  go_ret
  exact ⟨rfl,HS.znr.bel⟩
 have h12:=pY rfl
 have hx0:=(HS.znr.get 0 rfl).cell 0 _ rfl
 have hx1:=(HS.znr.get 0 rfl).cell 1 _ rfl
 have hx2:=(HS.znr.get 0 rfl).cell 2 _ rfl
 have hx3:=(HS.znr.get 0 rfl).cell 3 _ rfl
 clear pY
 go_wp2_with fail
 refine (zlk alg size secs a1 n1 c1 _).mono ?_
 rintro e w3 ⟨rfl,hbel⟩
 have HS:=znq (HS.znr.later hbel)
 clear hbel hx0 hx1 hx2 hx3
 rcases hwz with hwz | hwz
 rotate_left
 ·go_wp2
  go_ret
  exact ⟨rfl,HS.znr.bel⟩
 obtain ⟨sz,sc,hsz,hsc,hz,hs,hw⟩:=zmq hwz
 rw [hwz]
 subst hsz hsc
 have HW:=znq hw
 clear hwz hw
 go_wp2_with (refine (HS.znr.get 0 rfl).mP rfl rfl rfl zhr rfl ?_)
 have zcH:=(HS.znr.get 0 rfl).lt
 refine (zng [] alg sz sc a1 n1 c1 key a2 n2 c2 _ hz hs HW.znr HKN.znr hkc (HKL.znr.below HS.znr.bel) (HG.znr.below HS.znr.bel) (HBG.znr.below HS.znr.bel) (by simp)).mono ?_
 rintro e w4 ⟨vp,sp,rfl,rU,hbel⟩
 obtain ⟨q,p,hvx,hvp,hsp⟩:=zr9 rU
 have HV:=znq hvx
 have hz3:=HS.znr.size
 have HS:=znq (HS.znr.later hbel)
 have hvl:=hvx.lt
 have zlP:w.heap.size≠vp∧w.heap.size≠sp:=by omega
 have sV:w.heap.size≤vp:=by omega
 have sW:w.heap.size≤sp:=by omega
 clear rU hbel hvx
 go_wp2_with (refine (HS.znr.get 0 rfl).mP rfl rfl rfl zhr rfl ?_)
 refine (zng [vp,sp] alg sz sc a1 n1 c1 key a2 n2 c2 _ hz hs HW.znr HKN.znr hkc (HKL.znr.below HS.znr.bel) (HG.znr.below HS.znr.bel) (HBG.znr.below HS.znr.bel) (fun i hi=>by simp at hi;omega)).mono ?_
 rintro e w5 ⟨vo,so,rfl,rU,hbel⟩
 obtain ⟨q2,p2,hvx,hvo,hso⟩:=zr9 rU
 have hvl2:=hvx.lt
 have HV2:=znq hvx
 have HV:=znq (HV.znr.zhR (F':=[vo,so,vp,sp]) hbel (fun i hi=>by simp at hi;rcases hi with rfl | rfl | rfl | rfl;exact .inr ⟨hvo,hvl2.1⟩;exact .inr ⟨hso,hvl2.2⟩;exact .inl (by simp);exact .inl (by simp)) (by simp) HV.znr.tabs)
 have HS:=znq (HS.znr.later hbel)
 have hvo0:w.heap.size≤vo:=by omega
 have hso0:w.heap.size≤so:=by omega
 clear rU hbel hvx
 obtain ⟨v0,hv0⟩:∃ v,v=zim alg sz sc key:=⟨_,rfl⟩
 have H0:=znq (show v0.pg∧v0.size=sz∧v0.mK=sc∧v0.reads=0∧v0.writes=0∧(∀ m,m < sc→v0.sec m=zf sz)∧v0.next=none∧v0.now=jy alg key∧v0.alg=alg from ⟨by rw [hv0];exact zlp hz hs,by rw [hv0];rfl,by rw [hv0];rfl,by rw [hv0];rfl,by rw [hv0];rfl,fun m hm=>by rw [hv0];exact zq0 hz.1 hm,by rw [hv0];rfl,by rw [hv0];rfl,by rw [hv0];rfl⟩)
 rw [← hv0] at HV HV2
 clear hv0
 have hx4:=(HS.znr.get 0 rfl).cell 4 _ rfl
 go_wp2
 clear hx4
 go_loopw [7] (fun c wr=>∃ (j:Nat) (v:Vol),j≤n2∧c=.int .i64 j∧Hid (v.pg∧v.size=sz∧v.mK=sc∧v.reads≤1000*j∧v.writes≤1000*j)∧Hid (kq [vo,so,vp,sp] q p vp sp wr v)∧Hid (kq [vo,so,vp,sp] q2 p2 vo so wr v)∧Hid (St w w.heap.size wr [(w.heap.size,zik alg sz sc a1 n1 c1 a2 n2 c2,47)])) (fun c _=>n2 - (intOf c).toNat)
 case atStart=>exact ⟨0,v0,by omega,rfl,⟨H0.znr.1,H0.znr.2.1,H0.znr.2.2.1,by rw [H0.znr.2.2.2.1];omega,by rw [H0.znr.2.2.2.2.1];omega⟩,HV,HV2,HS⟩
 case round =>
  clear HS HV HV2 H0
  obtain ⟨j,v,hj,rfl,HO,HV,HV2,HS⟩:=hrel
  have hx4:=(HS.znr.get 0 rfl).cell 4 _ rfl
  by_cases hlt:j < n2
  ·obtain ⟨x,hxi⟩:∃ x,xs[j]? = some x:=⟨xs[j]'(by rw [HXN.znr];exact hlt),by simp⟩
   obtain ⟨zeG,ab,zbH,rfl,_,hr⟩:=(HX.znr.below HS.znr.bel).at hxi
   obtain ⟨rO,_⟩:=HX.znr.at hxi
   have HXI:=znq (show x.bs.length≤x.cap∧zr w x.ao (x.bs.map B) from ⟨rO.cap.1,rO.lies⟩)
   have hc0:wr.cell? ⟨ab,zbH+j*4,none⟩=some (.int .i64 x.kind):=hr 0 (.int .i64 x.kind) rfl
   have hc1:=hr 1 (.int .i64 x.n) rfl
   have hc2:=hr 2 (.slice x.ao x.bs.length x.cap) rfl
   have hc3:=hr 3 (B x.by') rfl
   have HXX:=znq (And.intro hxi trivial)
   clear zeG rO hr hxi
   have hds:=zrw HO.znr.1 (pW x.kind) x.n x.bs x.by'
   obtain ⟨r,hr⟩:∃ r,r=v.act (pW x.kind) x.n x.bs x.by':=⟨_,rfl⟩
   rw [← hr] at hds
   have HRR:=znq hr
   have HDS:=znq hds
   clear hr hds
   go_wp2_with fail
   refine (zsa x HV.znr ⟨by have:=HO.znr.2.2.2.1;omega,by have:=HO.znr.2.2.2.2;omega⟩ (HBG.znr.below HS.znr.bel) HXI.znr.1 (zq7 HXI.znr.2 HS.znr.bel (fun i hi=>by simp at hi;omega))).mono ?_
   rintro e w9 ⟨rfl,hv,hc⟩
   rw [← HRR.znr] at hv ⊢
   have HV:=znq hv
   have HV2:=znq (HV2.znr.chg hc (by simp) (by omega) (by omega))
   have HS:=znq (HS.znr.chg hc sV sW (by simp;omega))
   clear hv hc hx4 hc0 hc1 hc2 hc3
   obtain ⟨u,hu⟩:∃ u,u=r.1:=⟨_,rfl⟩
   obtain ⟨er,her⟩:∃ er,er=r.2:=⟨_,rfl⟩
   have HU:=znq (show u.pg∧u.size=sz∧u.mK=sc∧u.reads≤1000*(j+1)∧u.writes≤1000*(j+1)∧(er≠0→u=v) from by
    obtain ⟨h1,h2,h3,h4,h5⟩:=HO.znr
    have hd:=HDS.znr
    rw [hu,her]
    exact ⟨hd.pq,by rw [hd.form.2.1];exact h2,by rw [hd.form.2.2];exact h3,uj hd.reads (by omega),uj hd.writes (by omega),hd.off⟩)
   rw [← hu] at HV
   rw [← her]
   by_cases h0:er=0
   ·subst h0
    have HRU:=znq (And.intro hu her)
    clear hu her
    obtain ⟨_,ab',zhU,he,_,hr⟩:=(HX.znr.below HS.znr.bel).at HXX.znr.1
    cases he
    have hc0:w9.cell? ⟨ab,zbH+j*4,none⟩=some (.int .i64 x.kind):=hr 0 (.int .i64 x.kind) rfl
    have hc1:=hr 1 (.int .i64 x.n) rfl
    have hc2:=hr 2 (.slice x.ao x.bs.length x.cap) rfl
    have hc3:=hr 3 (B x.by') rfl
    clear hr
    have hx4:=(HS.znr.get 0 rfl).cell 4 _ rfl
    go_wp2_with fail
    refine (zsa x HV2.znr ⟨by have:=HO.znr.2.2.2.1;omega,by have:=HO.znr.2.2.2.2;omega⟩ (HBG.znr.below HS.znr.bel) HXI.znr.1 (zq7 HXI.znr.2 HS.znr.bel (fun i hi=>by simp at hi;omega))).mono ?_
    rintro e w10 ⟨rfl,hv,hc⟩
    rw [← HRR.znr,← HRU.znr.1] at hv
    rw [← HRR.znr,← HRU.znr.2]
    have HV2:=znq hv
    have HV:=znq (HV.znr.chg hc (by simp) (by omega) (by omega))
    have HS:=znq (HS.znr.chg hc hvo0 hso0 (by simp;omega))
    clear hv hc hx4 hc0 hc1 hc2 hc3
    go_wp2
    go_roundw
    case rel=>exact ⟨j+1,u,by omega,by go_num,⟨HU.znr.1,HU.znr.2.1,HU.znr.2.2.1,HU.znr.2.2.2.1,HU.znr.2.2.2.2.1⟩,HV,HV2,HS⟩
    case measure=>simp [intOf];omega
   ·have d1:(er==0)=false:=by simpa using h0
    have HV:=znq (show kq [vo,so,vp,sp] q p vp sp w9 u from HV.znr)
    have HV2:=znq (show kq [vo,so,vp,sp] q2 p2 vo so w9 u from by rw [HU.znr.2.2.2.2.2 h0];exact HV2.znr)
    clear hu her HRR HDS h0
    go_wp2
    go_roundw
    case rel=>exact ⟨j+1,u,by omega,by go_num,⟨HU.znr.1,HU.znr.2.1,HU.znr.2.2.1,HU.znr.2.2.2.1,HU.znr.2.2.2.2.1⟩,HV,HV2,HS⟩
    case measure=>simp [intOf];omega
  ·obtain rfl:n2=j:=by omega
   have hqc:=fun (w:World) (d a b x y:Nat)=>zqq (P:=Tryz.prog) w d 71 .f64 a b x y Tryz.underlying71
   have q1:=zsd v.reads (by have:=HO.znr.2.2.2.1;omega)
   have q2':=zsd v.writes (by have:=HO.znr.2.2.2.2;omega)
   go_wp2_with fail
   refine (zt3 HV.znr).mono ?_
   rintro e w9 ⟨rfl,rfl⟩
   go_wp2_with fail
   refine (zt3 HV2.znr).mono ?_
   rintro e w9 ⟨rfl,rfl⟩
   have hx2:=(HS.znr.get 0 rfl).cell 2 _ rfl
   go_wp2
   clear hqc q1 q2' hx4 hx2
   go_loopw [8] (fun c wr=>∃ (n:Nat) (u:Vol),n≤sc∧c=.int .i64 n∧Hid (u.pg∧u.size=sz∧u.mK=sc∧u.reads≤1000*n2+n∧u.writes≤1000*n2)∧Hid (kq [vo,so,vp,sp] q p vp sp wr u)∧Hid (kq [vo,so,vp,sp] q2 p2 vo so wr u)∧Hid (St w w.heap.size wr [(w.heap.size,zik alg sz sc a1 n1 c1 a2 n2 c2,47)])) (fun c _=>sc - (intOf c).toNat)
   case atStart=>exact ⟨0,v,by omega,rfl,⟨HO.znr.1,HO.znr.2.1,HO.znr.2.2.1,HO.znr.2.2.2.1,HO.znr.2.2.2.2⟩,HV,HV2,HS⟩
   case round =>
    clear HS HV HV2 HO
    obtain ⟨n,u,hn,rfl,HU,HV,HV2,HS⟩:=hrel
    have hx2:=(HS.znr.get 0 rfl).cell 2 _ rfl
    by_cases sO:n < sc
    ·have hns:n < u.mK:=by rw [HU.znr.2.2.1];exact sO
     have hbd:u.reads≤1000000∧u.writes≤1000000:=⟨by have:=HU.znr.2.2.2.1;omega,by have:=HU.znr.2.2.2.2;omega⟩
     have HNS:=znq (And.intro hns hbd)
     clear hns hbd
     go_wp2_with fail
     refine (zt1 n HV.znr HNS.znr.1).mono ?_
     rintro e w11 ⟨aa,ca,rfl,pU,hbel⟩
     have HGA:=znq pU
     have hl1:=HV.znr.lt
     have hl2:=HV2.znr.lt
     have HV:=znq (HV.znr.below hbel)
     have HV2:=znq (HV2.znr.below hbel)
     have HS:=znq (HS.znr.later hbel)
     have hz1:=hbel.size
     clear pU hbel hx2
     go_wp2_with fail
     refine (zt1 n HV2.znr HNS.znr.1).mono ?_
     rintro e w12 ⟨ab,cb,rfl,pU,hbel⟩
     have HGB:=znq pU
     have HGA:=znq (HGA.znr.below hbel)
     have HV:=znq (HV.znr.below hbel)
     have HV2:=znq (HV2.znr.below hbel)
     have HS:=znq (HS.znr.later hbel)
     have hz2:=hbel.size
     clear pU hbel
     go_wp2_with fail
     refine (zrf n HV.znr HNS.znr.1 HNS.znr.2).mono ?_
     rintro e w13 ⟨ac,cc,rfl,pU,hv,hc⟩
     have HGC:=znq pU
     have HGA:=znq (HGA.znr.chg hc (by omega) (by omega))
     have HGB:=znq (HGB.znr.chg hc (by omega) (by omega))
     have HV:=znq hv
     have HV2:=znq (HV2.znr.chg hc (by simp) (by omega) (by omega))
     have HS:=znq (HS.znr.chg hc sV sW (by simp;omega))
     have hz3':=hc.size
     clear pU hv hc
     go_wp2_with fail
     refine (zrf n HV2.znr HNS.znr.1 HNS.znr.2).mono ?_
     rintro e w14 ⟨ad,cd,rfl,pU,hv,hc⟩
     have HGA:=znq (HGA.znr.chg hc (by omega) (by omega))
     have HGB:=znq (HGB.znr.chg hc (by omega) (by omega))
     have HGC:=znq (HGC.znr.chg hc (by omega) (by omega))
     have HV2:=znq hv
     have HV:=znq (HV.znr.chg hc (by simp) (by omega) (by omega))
     have HS:=znq (HS.znr.chg hc hvo0 hso0 (by simp;omega))
     have hrd:=zqy HU.znr.1 HNS.znr.1
     obtain ⟨u2,hu2⟩:∃ u2,u2=(u.read n).1:=⟨_,rfl⟩
     rw [← hu2] at HV HV2 hrd
     have HU2:=znq (show u2.pg∧u2.size=sz∧u2.mK=sc∧u2.reads≤1000*n2+(n+1)∧u2.writes≤1000*n2 from ⟨hrd.2.1,by rw [hrd.2.2.1.2.1];exact HU.znr.2.1,by rw [hrd.2.2.1.2.2];exact HU.znr.2.2.1,by rw [hrd.2.2.2.1];have:=HU.znr.2.2.2.1;omega,by rw [hrd.2.2.2.2.1];exact HU.znr.2.2.2.2⟩)
     have F1:=yL w14 aa u.size ca (zih u.size u.store n) (zii HU.znr.1.len HNS.znr.1) HGA.znr.slice.2
     have F2:=yL w14 ab u.size cb (zih u.size u.store n) (zii HU.znr.1.len HNS.znr.1) HGB.znr.slice.2
     have F3:=yL w14 ac u.size cc (u.sec n) (HU.znr.1.nV HNS.znr.1) HGC.znr.slice.2
     have F4:=yL w14 ad u.size cd (u.sec n) (HU.znr.1.nV HNS.znr.1) pU.slice.2
     generalize str (zih u.size u.store n)=s1 at *
     generalize str (u.sec n)=s2 at *
     generalize u.size=us1 at *
     clear pU hv hc hrd hu2 HGA HGB HGC
     go_wp2
     go_roundw
     case rel=>exact ⟨n+1,u2,by omega,by go_num,HU2,HV,HV2,HS⟩
     case measure=>simp [intOf];omega
    ·obtain rfl:sc=n:=by omega
     go_wp2_with fail
     refine (zra _ (HG.znr.below HS.znr.bel) (HBG.znr.below HS.znr.bel)).mono ?_
     rintro e w9 ⟨rfl,hbel⟩
     have HS:=znq (HS.znr.later hbel)
     clear hbel
     go_wp2
     go_ret
     exact ⟨rfl,HS.znr.bel⟩
end Go.Proofs.YtjaioajjfiaheaaGreatDoor

/-
  Texts of this claim, one behind the other.
-/
import Derived.Test.YtjaioajjfiaheaaGreatDoorV1
import Derived.Test.YtjaioajjfiaheaaGreatDoorV28
import Derived.Lib.Hide
set_option linter.unusedVariables false
set_option linter.unusedSimpArgs false
set_option maxHeartbeats 16000000
set_option maxRecDepth 100000
open List renaming getElem?_set_ne→uH,getElem?_set_self→uW,length_set→Vo
open Nat renaming le_refl→xc,le_trans→uj
namespace Go.Proofs.YtjaioajjfiaheaaGreatDoor
open RowKit Mem Ops Cells Oct Gf Trn Aes Ring Ezk Blake Adi Hct Wid Vol Fl ru
attribute [local irreducible] zE zN zO zM yu
theorem vlast_law (alg size secs:Int) (a1:Option Addr) (n1 c1:Nat) (key:List UInt8) (a2:Option Addr) (n2 c2:Nat) (xs:List zmm) (w:World) (hkn:key.length=n1) (hkc:n1≤c1) (hkl:zr w a1 (key.map B)) (hxn:xs.length=n2) (hnm:n2≤maxLen) (hx:zlo w a2 xs) (hg:pQ w) (hbg:qD w) :
  Calls Tryz.prog 9 #[.agg (zik alg size secs a1 n1 c1 a2 n2 c2).toArray] w fun e w'=>e=.returned (.bool true)∧Below w.heap.size w w':=by
 have HS:=znq (St.start w)
 have HKN:=znq hkn
 have HKL:=znq hkl
 have HXN:=znq hxn
 have HX:=znq hx
 have HG:=znq hg
 have HBG:=znq hbg
 have HNM:=znq hnm
 have hwz:nU alg size secs n1=0∨(nU alg size secs n1 != 0)=true:=by
  by_cases h:nU alg size secs n1=0
  ·exact .inl h
  ·exact .inr (by simpa using h)
 clear hkn hkl hxn hx hg hbg hnm
 go_enter Tryz.func9,Tryz.ntmps9
 go_wp2_with (refine zh 47 _ (zik alg size secs a1 n1 c1 a2 n2 c2) _ rfl rfl rfl rfl ?_)
 intro w1 hb hbel;have HS:=znq (HS.znr.push hb hbel);clear hb hbel
 go_wp2_with (refine (HS.znr.get 0 rfl).mP rfl rfl rfl zhr rfl ?_)
 refine (zq9 alg size secs a1 n1 c1 a2 n2 c2 xs _ HXN.znr HNM.znr (HX.znr.below HS.znr.bel)).mono ?_
 rintro e w2 ⟨⟨b,rfl,pY⟩,hbel⟩
 have HS:=znq (HS.znr.later hbel)
 clear hbel
 cases b
 ·clear hwz pY
  go_wp2
  go_ret
  exact ⟨rfl,HS.znr.bel⟩
 have h12:=pY rfl
 have hx0:=(HS.znr.get 0 rfl).cell 0 _ rfl
 have hx1:=(HS.znr.get 0 rfl).cell 1 _ rfl
 have hx2:=(HS.znr.get 0 rfl).cell 2 _ rfl
 have hx3:=(HS.znr.get 0 rfl).cell 3 _ rfl
 clear pY
 go_wp2_with fail
 refine (zlk alg size secs a1 n1 c1 _).mono ?_
 rintro e w3 ⟨rfl,hbel⟩
 have HS:=znq (HS.znr.later hbel)
 clear hbel hx0 hx1 hx2 hx3
 rcases hwz with hwz | hwz
 rotate_left
 ·go_wp2
  go_ret
  exact ⟨rfl,HS.znr.bel⟩
 obtain ⟨sz,sc,hsz,hsc,hz,hs,hw⟩:=zmq hwz
 rw [hwz]
 subst hsz hsc
 have HW:=znq hw
 clear hwz hw
 go_wp2_with (refine (HS.znr.get 0 rfl).mP rfl rfl rfl zhr rfl ?_)
 have zcH:=(HS.znr.get 0 rfl).lt
 refine (zng [] alg sz sc a1 n1 c1 key a2 n2 c2 _ hz hs HW.znr HKN.znr hkc (HKL.znr.below HS.znr.bel) (HG.znr.below HS.znr.bel) (HBG.znr.below HS.znr.bel) (by simp)).mono ?_
 rintro e w4 ⟨vp,sp,rfl,rU,hbel⟩
 obtain ⟨q,p,hvx,hvp,hsp⟩:=zr9 rU
 have HV:=znq hvx
 have hz3:=HS.znr.size
 have HS:=znq (HS.znr.later hbel)
 have hvl:=hvx.lt
 have zlP:w.heap.size≠vp∧w.heap.size≠sp:=by omega
 have sV:w.heap.size≤vp:=by omega
 have sW:w.heap.size≤sp:=by omega
 clear rU hbel hvx
 have hx2:=(HS.znr.get 0 rfl).cell 2 _ rfl
 go_wp2_with (at_make;refine jJ 52 9 (.string ByteArray.empty) 16 sc rfl rfl rfl rfl Tryz.underlying52 zrn rfl rfl rfl (by omega) (by unfold maxLen;omega) ?_)
 intro w5 hb hbel
 have hg5:=hb.lt
 have HV:=znq (HV.znr.wider (b:=w4.heap.size) hbel (xc _) hg5 HV.znr.tabs)
 have HS:=znq (HS.znr.push hb hbel)
 clear hb hbel hx2
 generalize w4.heap.size=g at *
 obtain ⟨v0,hv0⟩:∃ v,v=zim alg sz sc key:=⟨_,rfl⟩
 have H0:=znq (show v0.pg∧v0.size=sz∧v0.mK=sc∧v0.reads=0∧v0.writes=0∧∀ m,m < sc→v0.sec m=zf sz from ⟨by rw [hv0];exact zlp hz hs,by rw [hv0];rfl,by rw [hv0];rfl,by rw [hv0];rfl,by rw [hv0];rfl,fun m hm=>by rw [hv0];exact zq0 hz.1 hm⟩)
 rw [← hv0] at HV
 clear hv0
 go_wp2
 go_loopw [6] (fun c wr=>∃ (i:Nat) (ls:List Value),i≤sc∧c=.int .i64 i∧Hid (ls.length=sc∧∀ m,m < i→ls[m]? = some (SV (zf sz)))∧Hid (kq [g,vp,sp] q p vp sp wr v0)∧Hid (St w w.heap.size wr [(g,ls,9),(w.heap.size,zik alg sz sc a1 n1 c1 a2 n2 c2,47)])) (fun c _=>sc - (intOf c).toNat)
 case atStart=>exact ⟨0,_,by omega,rfl,⟨by simp,fun m hm=>absurd hm (by omega)⟩,HV,HS⟩
 case round =>
  clear HS HV
  obtain ⟨i,ls,hi,rfl,HL,HV,HS⟩:=hrel
  by_cases hlt:i < sc
  ·have hx1:=(HS.znr.get 1 rfl).cell 1 _ rfl
   go_wp2_with (at_make;refine jJ 22 5 (.int .u8 0) 1 sz rfl rfl rfl rfl Tryz.underlying22 yq rfl rfl rfl (by omega) (by unfold maxLen;omega) ?_)
   intro w6 hb6 hbel
   rw [zfE] at hb6
   have F1:=yL w6 (some ⟨wr.heap.size,0,none⟩) sz sz (zf sz) (zd sz) hb6.lies
   have HV:=znq (HV.znr.below hbel)
   have HS:=znq (HS.znr.later hbel)
   have hfit:i < ls.length:=by rw [HL.znr.1];exact hlt
   clear hb6 hbel hx1
   go_wp2_with (refine (HS.znr.get 0 rfl).ry (i:=i) (v:=SV (zf sz)) rfl rfl rfl rfl zrb rfl rfl hfit ?_)
   intro w7 hb7 ho7
   have HS:=znq (HS.znr.change 0 hb7 ho7 (by omega) (by simp;omega))
   have HV:=znq (HV.znr.only ho7 (by simp) (by omega) (by omega))
   have HL:=znq (show (ls.set i (SV (zf sz))).length=sc∧∀ m,m < i+1→(ls.set i (SV (zf sz)))[m]? = some (SV (zf sz)) from ⟨by rw [Vo];exact HL.znr.1,fun m hm=>by
    by_cases e:i=m
    ·subst e;rw [uW hfit]
    ·rw [uH e];exact HL.znr.2 m (by omega)⟩)
   clear hb7 ho7 F1
   go_wp2
   go_roundw
   case rel=>exact ⟨i+1,_,by omega,by go_num,HL,HV,HS⟩
   case measure=>simp [intOf];omega
  ·obtain rfl:sc=i:=by omega
   clear hlt hi
   have HL:=znq (show ls.length=sc∧∀ m,m < sc→ls[m]? = some (SV (v0.sec m)) from ⟨HL.znr.1,fun m hm=>by rw [H0.znr.2.2.2.2.2 m hm];exact HL.znr.2 m hm⟩)
   have hx4:=(HS.znr.get 1 rfl).cell 4 _ rfl
   go_wp2
   clear hx4
   go_loopw [7] (fun c wr=>∃ (j:Nat) (v:Vol) (ls:List Value),j≤n2∧c=.int .i64 j∧Hid (v.pg∧v.size=sz∧v.mK=sc∧v.reads≤1000*j∧v.writes≤1000*j)∧Hid (ls.length=sc∧∀ m,m < sc→ls[m]? = some (SV (v.sec m)))∧Hid (kq [g,vp,sp] q p vp sp wr v)∧Hid (St w w.heap.size wr [(g,ls,9),(w.heap.size,zik alg sz sc a1 n1 c1 a2 n2 c2,47)])) (fun c _=>n2 - (intOf c).toNat)
   case atStart=>exact ⟨0,v0,ls,by omega,rfl,⟨H0.znr.1,H0.znr.2.1,H0.znr.2.2.1,by rw [H0.znr.2.2.2.1];omega,by rw [H0.znr.2.2.2.2.1];omega⟩,HL,HV,HS⟩
   case round =>
    clear HS HV HL H0
    obtain ⟨j,v,ls,hj,rfl,HO,HL,HV,HS⟩:=hrel
    have hx4:=(HS.znr.get 1 rfl).cell 4 _ rfl
    by_cases hlt:j < n2
    rotate_left
    ·obtain rfl:n2=j:=by omega
     go_wp2_with fail
     refine (zra _ (HG.znr.below HS.znr.bel) (HBG.znr.below HS.znr.bel)).mono ?_
     rintro e w9 ⟨rfl,hbel⟩
     have HS:=znq (HS.znr.later hbel)
     clear hbel
     go_wp2
     go_ret
     exact ⟨rfl,HS.znr.bel⟩
    obtain ⟨x,hxi⟩:∃ x,xs[j]? = some x:=⟨xs[j]'(by rw [HXN.znr];exact hlt),by simp⟩
    obtain ⟨zeG,ab,zbH,rfl,_,hr⟩:=(HX.znr.below HS.znr.bel).at hxi
    obtain ⟨rO,_⟩:=HX.znr.at hxi
    have HXI:=znq (show x.bs.length≤x.cap∧zr w x.ao (x.bs.map B) from ⟨rO.cap.1,rO.lies⟩)
    have hc0:wr.cell? ⟨ab,zbH+j*4,none⟩=some (.int .i64 x.kind):=hr 0 (.int .i64 x.kind) rfl
    have hc1:=hr 1 (.int .i64 x.n) rfl
    have hc2:=hr 2 (.slice x.ao x.bs.length x.cap) rfl
    have hc3:=hr 3 (B x.by') rfl
    clear zeG rO hr hxi
    go_wp2_with (refine ze 54 [.int .i64 0,.int .i64 0,.slice none 0 0,.int .u8 0] _ rfl rfl zsc rfl ?_)
    intro w6 hb hbel
    have HVB:=znq (HV.znr.lt)
    have HVW:=znq (HV.znr.wider (b:=wr.heap.size) hbel (xc _) hb.lt HV.znr.tabs)
    have HGL:=znq ((HS.znr.get 0 rfl).lt)
    have HS:=znq (HS.znr.push hb hbel)
    have hab:g < wr.heap.size:=HGL.znr
    clear hb hbel hc0 hc1 hc2 hc3 hx4
    go_wp2_with (refine (HS.znr.get 0 rfl).mM rfl rfl rfl (cs:=x.vals) rfl zfn rfl rfl (zt2 x) ?_)
    intro w7 hb7 ho7
    have hvr:=HVB.znr
    have HV:=znq ((HVW.znr.only ho7 (by simp) (by omega) (by omega)).narrow (F:=[g,vp,sp]) (fun i hi=>List.mem_cons_of_mem _ hi) (by simp))
    have HS:=znq (HS.znr.change 0 hb7 ho7 (by omega) (by simp;omega))
    clear HVW
    generalize wr.heap.size=bx at *
    clear hb7 ho7
    go_wp2_with (refine (HS.znr.get 0 rfl).mP rfl rfl rfl zfn rfl ?_)
    refine (zqw x _).mono ?_
    rintro e w8 ⟨rfl,hbel⟩
    have HV:=znq (HV.znr.below hbel)
    have HS:=znq (HS.znr.later hbel)
    clear hbel
    have hkl:=zsx x.kind
    have hds:=zrw HO.znr.1 (pW x.kind) x.n x.bs x.by'
    obtain ⟨r,hr⟩:∃ r,r=v.act (pW x.kind) x.n x.bs x.by':=⟨_,rfl⟩
    rw [← hr] at hds
    have HRR:=znq hr
    obtain ⟨kd,hkd⟩:∃ kd,kd=pW x.kind:=⟨_,rfl⟩
    have HKD:=znq hkd
    rw [← hkd] at hds hkl
    rw [← hkd]
    have HDS:=znq hds
    clear hkd hr hds
    by_cases h3:kd=3
    ·have d3:((kd:Int)==3)=true:=by simp;omega
     go_wp2
     go_roundw
     case rel=>exact ⟨j+1,v,ls,by omega,by go_num,⟨HO.znr.1,HO.znr.2.1,HO.znr.2.2.1,by have:=HO.znr.2.2.2.1;omega,by have:=HO.znr.2.2.2.2;omega⟩,HL,HV,HS.znr.tail⟩
     case measure=>simp [intOf];omega
    have d3:((kd:Int)==3)=false:=by simp;omega
    have H3:=znq h3
    clear h3
    go_wp2_with (refine (HS.znr.get 0 rfl).mP rfl rfl rfl zfn rfl ?_)
    refine (zsa x HV.znr ⟨by have:=HO.znr.2.2.2.1;omega,by have:=HO.znr.2.2.2.2;omega⟩ (HBG.znr.below HS.znr.bel) HXI.znr.1 (zq7 HXI.znr.2 HS.znr.bel (fun i hi=>by simp at hi;omega))).mono ?_
    rintro e w9 ⟨rfl,hv,hc⟩
    rw [← HRR.znr] at hv ⊢
    have HV:=znq hv
    have HS:=znq (HS.znr.chg hc sV sW (by simp;omega))
    clear hv hc d3
    obtain ⟨u,hu⟩:∃ u,u=r.1:=⟨_,rfl⟩
    obtain ⟨er,her⟩:∃ er,er=r.2:=⟨_,rfl⟩
    have HU:=znq (show u.pg∧u.size=sz∧u.mK=sc∧u.reads≤1000*j+1∧u.writes≤1000*j+1∧(∀ m,m < sc→u.sec m=if kd=0∧er=0∧x.n=(m:Int) then x.bs else v.sec m)∧(kd=0→er=0→v.has x.n∧x.bs.length=v.size) from by
     obtain ⟨h1,h2,h3,h4,h5⟩:=HO.znr
     have hd:=HDS.znr
     rw [hu,her]
     exact ⟨hd.pq,by rw [hd.form.2.1];exact h2,by rw [hd.form.2.2];exact h3,uj hd.reads (by omega),uj hd.writes (by omega),fun m hm=>hd.secs H3.znr m (by rw [h3];exact hm),hd.bytes⟩)
    rw [← hu] at HV
    rw [← her]
    clear hu her HRR HDS H3
    have hcase:(er==0)=false∨((er==0)=true∧((kd:Int)==0)=false)∨(er=0∧kd=0):=by
     by_cases h1:er=0
     ·by_cases h2:kd=0
      ·exact .inr (.inr ⟨h1,h2⟩)
      ·exact .inr (.inl ⟨by simpa using h1,by simp;omega⟩)
     ·exact .inl (by simpa using h1)
    have zlQ:(sc==0)=false:=by simp;omega
    rcases hcase with d1 | ⟨d1,d2⟩ | ⟨d1,d2⟩
    rotate_left 2
    ·obtain ⟨m0,hm0,hms,hxl⟩:∃ m0:Nat,x.n=(m0:Int)∧m0 < sc∧x.bs.length=sz:=by
      obtain ⟨h1,h2⟩:=HU.znr.2.2.2.2.2.2 d2 d1
      unfold Vol.has at h1
      exact ⟨x.n.toNat,by omega,by have:=HO.znr.2.2.1;omega,by rw [h2];exact HO.znr.2.1⟩
     have HM0:=znq (And.intro hm0 hxl)
     clear hm0 hxl
     subst d1 d2
     have hx0:=(HS.znr.get 0 rfl).cell 0 (.int .i64 x.kind) rfl
     have hx1:=(HS.znr.get 0 rfl).cell 1 (.int .i64 x.n) rfl
     have hx2:=(HS.znr.get 0 rfl).cell 2 (.slice x.ao x.bs.length x.cap) rfl
     have hx3:=(HS.znr.get 0 rfl).cell 3 (B x.by') rfl
     go_wp2_with fail
     refine (zqw x _).mono ?_
     rintro e w10 ⟨rfl,hbel⟩
     have HV:=znq (HV.znr.below hbel)
     have HS:=znq (HS.znr.later hbel)
     rw [← HKD.znr]
     clear hbel hx0 hx1 hx2 hx3
     have hy1:=fun (z:zG w10.drew)=>((HS.znr.drew.later z.later).get 0 rfl).cell 1 (.int .i64 (m0:Int)) (by rw [← HM0.znr.1];rfl)
     have hy2:=fun (z:zG w10.drew)=>((HS.znr.drew.later z.later).get 0 rfl).cell 2 (.slice x.ao x.bs.length x.cap) rfl
     have F1:=fun (z:zG w10.drew)=>yL z.val x.ao x.bs.length x.cap x.bs rfl (HXI.znr.2.below ((HS.znr.bel.drew).trans (z.later.mono HS.znr.drew.size)))
     have hrem:((m0:Int)).tmod (sc:Int)=(m0:Int):=by
      rw [Int.tmod_eq_emod_of_nonneg (by omega)]
      exact Int.emod_eq_of_lt (by omega) (by omega)
     go_wp2_with fail
     refine zn [0,1,2,3,4,5,6,7,8,9,10] (by kernel_rfl) (by kernel_rfl) ?_
     rintro w11 rfl
     refine mqR ?_
     have hfit:m0 < ls.length:=by rw [HL.znr.1];exact hms
     refine zp rfl rfl (by rfl) (fun K hK=>?_)
     refine (HS.znr.drew.get 1 rfl).nO (i:=m0) (v:=SV x.bs) rfl rfl rfl zrb rfl rfl hfit (fun w12 pY sJ=>hK _ _ ?_)
     clear hK K F1 hy1 hy2 hrem
     have HV:=znq ((HV.znr.below (Below.refl w10.heap.size w10).drew).only sJ (by simp) (by omega) (by omega))
     have HS:=znq (HS.znr.drew.change 1 pY sJ (by omega) (by simp;omega))
     obtain ⟨ls2,tJ⟩:∃ l,l=ls.set m0 (SV x.bs):=⟨_,rfl⟩
     have HL2:=znq (show ls2.length=sc∧∀ m,m < sc→ls2[m]? = some (SV (u.sec m)) from ⟨by rw [tJ,Vo];exact HL.znr.1,fun m hm=>by
      rw [HU.znr.2.2.2.2.2.1 m hm,tJ]
      by_cases e:m0=m
      ·subst e;rw [uW hfit,if_pos ⟨by trivial,by trivial,HM0.znr.1⟩]
      ·rw [uH e,if_neg (fun h=>e (by have:=HM0.znr.1;omega))];exact HL.znr.2 m hm⟩)
     rw [← tJ] at HS
     clear tJ pY sJ HL hfit
     go_simp
     refine zo ?_
     have hbt:g < bx:=hab
     clear zlQ
     go_wp2
     go_loopw [9] (fun c wr=>∃ (n:Nat) (u:Vol),n≤sc∧c=.int .i64 n∧Hid (u.pg∧u.size=sz∧u.mK=sc∧u.reads≤1000*j+1+n∧u.writes≤1000*j+1)∧Hid (ls2.length=sc∧∀ m,m < sc→ls2[m]? = some (SV (u.sec m)))∧Hid (kq [g,vp,sp] q p vp sp wr u)∧Hid (St w w.heap.size wr [(bx,x.vals,54),(g,ls2,9),(w.heap.size,zik alg sz sc a1 n1 c1 (some ⟨ab,zbH,none⟩) n2 c2,47)])) (fun c _=>sc - (intOf c).toNat)
     case atStart=>exact ⟨0,u,by omega,rfl,⟨HU.znr.1,HU.znr.2.1,HU.znr.2.2.1,HU.znr.2.2.2.1,HU.znr.2.2.2.2.1⟩,HL2,HV,HS⟩
     case round =>
      clear HS HV HL2 HU
      obtain ⟨n,u,hn,rfl,HU,HL2,HV,HS⟩:=hrel
      by_cases sO:n < sc
      ·go_wp2_with fail
       refine (zrf n HV.znr (by rw [HU.znr.2.2.1];exact sO) ⟨by have:=HU.znr.2.2.2.1;omega,by have:=HU.znr.2.2.2.2;omega⟩).mono ?_
       rintro e w13 ⟨ao,cap,rfl,pU,hv,hc⟩
       have hrd:=zqy HU.znr.1 (n:=n) (by rw [HU.znr.2.2.1];exact sO)
       obtain ⟨u2,hu2⟩:∃ u2,u2=(u.read n).1:=⟨_,rfl⟩
       rw [← hu2] at hv hrd
       have HU2:=znq (show u2.pg∧u2.size=sz∧u2.mK=sc∧u2.reads≤1000*j+1+(n+1)∧u2.writes≤1000*j+1 from ⟨hrd.2.1,by rw [hrd.2.2.1.2.1];exact HU.znr.2.1,by rw [hrd.2.2.1.2.2];exact HU.znr.2.2.1,by rw [hrd.2.2.2.1];have:=HU.znr.2.2.2.1;omega,by rw [hrd.2.2.2.2.1];exact HU.znr.2.2.2.2⟩)
       have HL3:=znq (show ls2.length=sc∧∀ m,m < sc→ls2[m]? = some (SV (u2.sec m)) from ⟨HL2.znr.1,fun m hm=>by rw [hrd.2.2.2.2.2.1 m];exact HL2.znr.2 m hm⟩)
       have HV:=znq hv
       have HS:=znq (HS.znr.chg hc sV sW (by simp;omega))
       have HLR:=znq pU.slice.2
       have HLN:=znq (HU.znr.1.nV (n:=n) (by rw [HU.znr.2.2.1];exact sO))
       have F1:=fun (z:zG w13.drew)=>yL z.val ao u.size cap (u.sec n) HLN.znr (HLR.znr.below ((Below.refl w13.heap.size w13).drew.trans z.later))
       have F2:=fun (z:zG w13.drew)=>((HS.znr.drew.later z.later).get 1 rfl).cell n (.string (str (u.sec n))) (HL2.znr.2 n sO)
       generalize str (u.sec n)=s1 at *
       generalize u.size=us1 at *
       clear pU hv hc hrd hu2
       go_wp2_with fail
       refine zn [0,1,2,3,4,5,6,7,8,9,10] (by kernel_rfl) (by kernel_rfl) ?_
       rintro w14 rfl
       refine mqR ?_
       clear F1 F2
       have HS:=znq HS.znr.drew
       have HV:=znq (HV.znr.below (Below.refl w13.heap.size w13).drew)
       refine zo ?_
       go_wp2
       go_roundw
       case rel=>exact ⟨n+1,u2,by omega,by go_num,HU2,HL3,HV,HS⟩
       case measure=>simp [intOf];omega
      ·obtain rfl:sc=n:=by omega
       go_wp2
       go_roundw
       case rel=>exact ⟨j+1,u,ls2,by omega,by go_num,⟨HU.znr.1,HU.znr.2.1,HU.znr.2.2.1,by have:=HU.znr.2.2.2.1;omega,by have:=HU.znr.2.2.2.2;omega⟩,HL2,HV,HS.znr.tail⟩
       case measure=>simp [intOf];omega
    ·obtain ⟨ls2,tJ⟩:∃ l,l=ls:=⟨_,rfl⟩
     have HL2:=znq (show ls2.length=sc∧∀ m,m < sc→ls2[m]? = some (SV (u.sec m)) from ⟨by rw [tJ];exact HL.znr.1,fun m hm=>by
      rw [HU.znr.2.2.2.2.2.1 m hm,tJ,if_neg (fun h=>by rw [h.2.1] at d1;simp at d1)];exact HL.znr.2 m hm⟩)
     rw [← tJ] at HS
     clear tJ HL
     go_wp2
     have hbt:g < bx:=hab
     clear zlQ
     go_wp2
     go_loopw [9] (fun c wr=>∃ (n:Nat) (u:Vol),n≤sc∧c=.int .i64 n∧Hid (u.pg∧u.size=sz∧u.mK=sc∧u.reads≤1000*j+1+n∧u.writes≤1000*j+1)∧Hid (ls2.length=sc∧∀ m,m < sc→ls2[m]? = some (SV (u.sec m)))∧Hid (kq [g,vp,sp] q p vp sp wr u)∧Hid (St w w.heap.size wr [(bx,x.vals,54),(g,ls2,9),(w.heap.size,zik alg sz sc a1 n1 c1 (some ⟨ab,zbH,none⟩) n2 c2,47)])) (fun c _=>sc - (intOf c).toNat)
     case atStart=>exact ⟨0,u,by omega,rfl,⟨HU.znr.1,HU.znr.2.1,HU.znr.2.2.1,HU.znr.2.2.2.1,HU.znr.2.2.2.2.1⟩,HL2,HV,HS⟩
     case round =>
      clear HS HV HL2 HU
      obtain ⟨n,u,hn,rfl,HU,HL2,HV,HS⟩:=hrel
      by_cases sO:n < sc
      ·go_wp2_with fail
       refine (zrf n HV.znr (by rw [HU.znr.2.2.1];exact sO) ⟨by have:=HU.znr.2.2.2.1;omega,by have:=HU.znr.2.2.2.2;omega⟩).mono ?_
       rintro e w13 ⟨ao,cap,rfl,pU,hv,hc⟩
       have hrd:=zqy HU.znr.1 (n:=n) (by rw [HU.znr.2.2.1];exact sO)
       obtain ⟨u2,hu2⟩:∃ u2,u2=(u.read n).1:=⟨_,rfl⟩
       rw [← hu2] at hv hrd
       have HU2:=znq (show u2.pg∧u2.size=sz∧u2.mK=sc∧u2.reads≤1000*j+1+(n+1)∧u2.writes≤1000*j+1 from ⟨hrd.2.1,by rw [hrd.2.2.1.2.1];exact HU.znr.2.1,by rw [hrd.2.2.1.2.2];exact HU.znr.2.2.1,by rw [hrd.2.2.2.1];have:=HU.znr.2.2.2.1;omega,by rw [hrd.2.2.2.2.1];exact HU.znr.2.2.2.2⟩)
       have HL3:=znq (show ls2.length=sc∧∀ m,m < sc→ls2[m]? = some (SV (u2.sec m)) from ⟨HL2.znr.1,fun m hm=>by rw [hrd.2.2.2.2.2.1 m];exact HL2.znr.2 m hm⟩)
       have HV:=znq hv
       have HS:=znq (HS.znr.chg hc sV sW (by simp;omega))
       have HLR:=znq pU.slice.2
       have HLN:=znq (HU.znr.1.nV (n:=n) (by rw [HU.znr.2.2.1];exact sO))
       have F1:=fun (z:zG w13.drew)=>yL z.val ao u.size cap (u.sec n) HLN.znr (HLR.znr.below ((Below.refl w13.heap.size w13).drew.trans z.later))
       have F2:=fun (z:zG w13.drew)=>((HS.znr.drew.later z.later).get 1 rfl).cell n (.string (str (u.sec n))) (HL2.znr.2 n sO)
       generalize str (u.sec n)=s1 at *
       generalize u.size=us1 at *
       clear pU hv hc hrd hu2
       go_wp2_with fail
       refine zn [0,1,2,3,4,5,6,7,8,9,10] (by kernel_rfl) (by kernel_rfl) ?_
       rintro w14 rfl
       refine mqR ?_
       clear F1 F2
       have HS:=znq HS.znr.drew
       have HV:=znq (HV.znr.below (Below.refl w13.heap.size w13).drew)
       refine zo ?_
       go_wp2
       go_roundw
       case rel=>exact ⟨n+1,u2,by omega,by go_num,HU2,HL3,HV,HS⟩
       case measure=>simp [intOf];omega
      ·obtain rfl:sc=n:=by omega
       go_wp2
       go_roundw
       case rel=>exact ⟨j+1,u,ls2,by omega,by go_num,⟨HU.znr.1,HU.znr.2.1,HU.znr.2.2.1,by have:=HU.znr.2.2.2.1;omega,by have:=HU.znr.2.2.2.2;omega⟩,HL2,HV,HS.znr.tail⟩
       case measure=>simp [intOf];omega
    ·have hx0:=(HS.znr.get 0 rfl).cell 0 (.int .i64 x.kind) rfl
     have hx1:=(HS.znr.get 0 rfl).cell 1 (.int .i64 x.n) rfl
     have hx2:=(HS.znr.get 0 rfl).cell 2 (.slice x.ao x.bs.length x.cap) rfl
     have hx3:=(HS.znr.get 0 rfl).cell 3 (B x.by') rfl
     go_wp2_with fail
     refine (zqw x _).mono ?_
     rintro e w10 ⟨rfl,hbel⟩
     have HV:=znq (HV.znr.below hbel)
     have HS:=znq (HS.znr.later hbel)
     rw [← HKD.znr]
     clear hbel hx0 hx1 hx2 hx3
     obtain ⟨ls2,tJ⟩:∃ l,l=ls:=⟨_,rfl⟩
     have HL2:=znq (show ls2.length=sc∧∀ m,m < sc→ls2[m]? = some (SV (u.sec m)) from ⟨by rw [tJ];exact HL.znr.1,fun m hm=>by
      rw [HU.znr.2.2.2.2.2.1 m hm,tJ,if_neg (fun h=>by rw [h.1] at d2;simp at d2)];exact HL.znr.2 m hm⟩)
     rw [← tJ] at HS
     clear tJ HL
     go_wp2
     have hbt:g < bx:=hab
     clear zlQ
     go_wp2
     go_loopw [9] (fun c wr=>∃ (n:Nat) (u:Vol),n≤sc∧c=.int .i64 n∧Hid (u.pg∧u.size=sz∧u.mK=sc∧u.reads≤1000*j+1+n∧u.writes≤1000*j+1)∧Hid (ls2.length=sc∧∀ m,m < sc→ls2[m]? = some (SV (u.sec m)))∧Hid (kq [g,vp,sp] q p vp sp wr u)∧Hid (St w w.heap.size wr [(bx,x.vals,54),(g,ls2,9),(w.heap.size,zik alg sz sc a1 n1 c1 (some ⟨ab,zbH,none⟩) n2 c2,47)])) (fun c _=>sc - (intOf c).toNat)
     case atStart=>exact ⟨0,u,by omega,rfl,⟨HU.znr.1,HU.znr.2.1,HU.znr.2.2.1,HU.znr.2.2.2.1,HU.znr.2.2.2.2.1⟩,HL2,HV,HS⟩
     case round =>
      clear HS HV HL2 HU
      obtain ⟨n,u,hn,rfl,HU,HL2,HV,HS⟩:=hrel
      by_cases sO:n < sc
      ·go_wp2_with fail
       refine (zrf n HV.znr (by rw [HU.znr.2.2.1];exact sO) ⟨by have:=HU.znr.2.2.2.1;omega,by have:=HU.znr.2.2.2.2;omega⟩).mono ?_
       rintro e w13 ⟨ao,cap,rfl,pU,hv,hc⟩
       have hrd:=zqy HU.znr.1 (n:=n) (by rw [HU.znr.2.2.1];exact sO)
       obtain ⟨u2,hu2⟩:∃ u2,u2=(u.read n).1:=⟨_,rfl⟩
       rw [← hu2] at hv hrd
       have HU2:=znq (show u2.pg∧u2.size=sz∧u2.mK=sc∧u2.reads≤1000*j+1+(n+1)∧u2.writes≤1000*j+1 from ⟨hrd.2.1,by rw [hrd.2.2.1.2.1];exact HU.znr.2.1,by rw [hrd.2.2.1.2.2];exact HU.znr.2.2.1,by rw [hrd.2.2.2.1];have:=HU.znr.2.2.2.1;omega,by rw [hrd.2.2.2.2.1];exact HU.znr.2.2.2.2⟩)
       have HL3:=znq (show ls2.length=sc∧∀ m,m < sc→ls2[m]? = some (SV (u2.sec m)) from ⟨HL2.znr.1,fun m hm=>by rw [hrd.2.2.2.2.2.1 m];exact HL2.znr.2 m hm⟩)
       have HV:=znq hv
       have HS:=znq (HS.znr.chg hc sV sW (by simp;omega))
       have HLR:=znq pU.slice.2
       have HLN:=znq (HU.znr.1.nV (n:=n) (by rw [HU.znr.2.2.1];exact sO))
       have F1:=fun (z:zG w13.drew)=>yL z.val ao u.size cap (u.sec n) HLN.znr (HLR.znr.below ((Below.refl w13.heap.size w13).drew.trans z.later))
       have F2:=fun (z:zG w13.drew)=>((HS.znr.drew.later z.later).get 1 rfl).cell n (.string (str (u.sec n))) (HL2.znr.2 n sO)
       generalize str (u.sec n)=s1 at *
       generalize u.size=us1 at *
       clear pU hv hc hrd hu2
       go_wp2_with fail
       refine zn [0,1,2,3,4,5,6,7,8,9,10] (by kernel_rfl) (by kernel_rfl) ?_
       rintro w14 rfl
       refine mqR ?_
       clear F1 F2
       have HS:=znq HS.znr.drew
       have HV:=znq (HV.znr.below (Below.refl w13.heap.size w13).drew)
       refine zo ?_
       go_wp2
       go_roundw
       case rel=>exact ⟨n+1,u2,by omega,by go_num,HU2,HL3,HV,HS⟩
       case measure=>simp [intOf];omega
      ·obtain rfl:sc=n:=by omega
       go_wp2
       go_roundw
       case rel=>exact ⟨j+1,u,ls2,by omega,by go_num,⟨HU.znr.1,HU.znr.2.1,HU.znr.2.2.1,by have:=HU.znr.2.2.2.1;omega,by have:=HU.znr.2.2.2.2;omega⟩,HL2,HV,HS.znr.tail⟩
       case measure=>simp [intOf];omega
end Go.Proofs.YtjaioajjfiaheaaGreatDoor

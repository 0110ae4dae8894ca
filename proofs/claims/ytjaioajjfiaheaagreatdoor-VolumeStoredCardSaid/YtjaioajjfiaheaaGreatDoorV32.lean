/-
  Texts of this claim, one behind the other.
-/
import Derived.Test.YtjaioajjfiaheaaGreatDoorV1
import Derived.Test.YtjaioajjfiaheaaGreatDoorV28
import Derived.Lib.Hide
set_option linter.unusedVariables false
set_option linter.unusedSimpArgs false
set_option maxHeartbeats 16000000
set_option maxRecDepth 100000
open List renaming length_map→yf
open Nat renaming le_trans→uj
namespace Go.Proofs.YtjaioajjfiaheaaGreatDoor
open RowKit Mem Ops Cells Oct Gf Trn Aes Ring Ezk Blake Adi Hct Wid Vol Fl ru
attribute [local irreducible] zE zN zO zM yu
structure zq4 (sz sc:Nat) (al:Int) (k:ku) (rd wr:Nat) (u:Vol):Prop where
 pq:u.pg
 size:u.size=sz
 mK:u.mK=sc
 alg:u.alg=al
 now:u.now=k
 next:u.next=none
 reads:u.reads≤rd
 writes:u.writes≤wr
theorem zq4.nk {sz sc:Nat} {al:Int} {k:ku} {rd wr:Nat} {u:Vol} (h:zq4 sz sc al k rd wr u) (n:Nat):u.nk n=k:=by
 unfold Vol.nk
 rw [h.next]
 exact h.now
theorem zs4 {F:List Nat} {q p vp sp:Nat} {w:World} {v:Vol} {sz sc:Nat} {al:Int} {k:ku} {rd wrr:Nat} (cp:Nat) (h:kq F q p vp sp w v) (hin:vp∈F∧sp∈F) (hl:zq4 sz sc al k rd wrr v) (hk:zij F w (fun w'=>qu w' cp k)) (hrd:rd≤900000∧wrr≤900000) :
  Calls Tryz.prog 40 #[.pointer (some ⟨vp,0,none⟩),.pointer (some ⟨cp,0,none⟩),.int .i64 sc] w fun e w'=>e=.returned (.bool true)∧(∃ u,zq4 sz sc al k (rd+sc) wrr u∧kq F q p vp sp w' u)∧Chg vp sp w w':=by
 have HV:=znq h
 have HLO:=znq hl
 have HK:=znq hk
 have hsc:sc≤256∧16≤sz∧sz≤4096:=⟨by have:=hl.pq.mK.2;have:=hl.mK;omega,by have:=hl.pq.size.1;have:=hl.size;omega,by have:=hl.pq.size.2;have:=hl.size;omega⟩
 clear h hl hk
 go_enter Tryz.func40,Tryz.ntmps40
 go_wp2
 go_loopw [7] (fun c wr=>∃ (n:Nat) (u:Vol),n≤sc∧c=.int .i64 n∧Hid (zq4 sz sc al k (rd+n) wrr u)∧Hid (kq F q p vp sp wr u)∧Hid (Chg vp sp w wr)) (fun c _=>sc - (intOf c).toNat)
 case atStart=>exact ⟨0,v,by omega,rfl,HLO,HV,Chg.refl _ _ _⟩
 case round =>
  clear HV HLO
  obtain ⟨n,u,hn,rfl,HLO,HV,HC⟩:=hrel
  by_cases hlt:n < sc
  ·have HNS:=znq (show n < u.mK∧u.reads≤1000000∧u.writes≤1000000 from ⟨by rw [HLO.znr.mK];exact hlt,by have:=HLO.znr.reads;omega,by have:=HLO.znr.writes;omega⟩)
   obtain ⟨um,hum⟩:∃ um,um=UInt64.ofNat n:=⟨_,rfl⟩
   have hcv:IntKind.u64.wrap (n:Int)=(um.toNat:Int):=by rw [hum];exact zbb n
   have HT:=znq (show zgn n=zz um++zz 0∧(zz um++zz 0).length=16 from ⟨by rw [hum];rfl,by rw [List.length_append,zK,zK]⟩)
   have hbu:=zru (um.toNat:Int)
   clear hum
   go_wp2_with fail
   refine (zrf n HV.znr HNS.znr.1 HNS.znr.2).mono ?_
   rintro e w1 ⟨ao,cap,rfl,pU,hv,hc⟩
   have zbI:=zqy HLO.znr.pq HNS.znr.1
   obtain ⟨u2,hu2⟩:∃ u2,u2=(u.read n).1:=⟨_,rfl⟩
   rw [← hu2] at hv zbI
   have HL2:=znq (show zq4 sz sc al k (rd+(n+1)) wrr u2 from ⟨zbI.2.1,by rw [zbI.2.2.1.2.1];exact HLO.znr.size,by rw [zbI.2.2.1.2.2];exact HLO.znr.mK,by rw [zbI.2.2.1.1];exact HLO.znr.alg,by rw [zbI.2.2.2.2.2.2.2.2.1];exact HLO.znr.now,by rw [zbI.2.2.2.2.2.2.2.1];exact HLO.znr.next,by rw [zbI.2.2.2.1];have:=HLO.znr.reads;omega,by rw [zbI.2.2.2.2.1];exact HLO.znr.writes⟩)
   have HSE:=znq (show u2.mK=u.mK∧zih u2.size u2.store n=xM k (zgn n) (u.sec n) false∧u2.size=sz∧u.size=sz∧(u.sec n).length=sz from by
    have e1:=zhG HLO.znr.pq HNS.znr.1
    rw [HLO.znr.nk n] at e1
    exact ⟨zbI.2.2.1.2.2,by rw [zbI.2.2.1.2.1,zbI.2.2.2.2.2.2.1];exact e1.symm,HL2.znr.size,HLO.znr.size,by rw [HLO.znr.pq.nV HNS.znr.1];exact HLO.znr.size⟩)
   have HV:=znq hv
   have HC:=znq (HC.znr.trans hc)
   rw [HSE.znr.2.2.2.1] at pU ⊢
   have HG1:=znq pU
   clear pU hv hc zbI hu2
   go_wp2_with fail
   refine (zt1 n HV.znr (by rw [HSE.znr.1];exact HNS.znr.1)).mono ?_
   rintro e w2 ⟨ar,cr,rfl,pU,hbel⟩
   rw [HSE.znr.2.2.1] at pU ⊢
   rw [show zih sz u2.store n=xM k (zgn n) (u.sec n) false from by rw [← HSE.znr.2.1,HSE.znr.2.2.1]] at pU
   have HG2:=znq pU
   have HG1:=znq (HG1.znr.below hbel)
   have HV:=znq (HV.znr.below hbel)
   have HC:=znq (HC.znr.later hbel)
   clear pU hbel
   go_wp2_with fail
   refine (k5 um 0 _).mono ?_
   rintro e w3 ⟨rfl,hbel⟩
   have HG2:=znq (HG2.znr.below hbel)
   have HG1:=znq (HG1.znr.below hbel)
   have HV:=znq (HV.znr.below hbel)
   have HC:=znq (HC.znr.later hbel)
   clear hbel hbu hcv
   go_wp2_with (refine ze 117 ((zf 16).map B) _ rfl rfl zj rfl ?_)
   intro w4 hb hbel
   have HB:=znq hb
   have HB34:=znq hbel
   clear hb hbel
   go_wp2_with (refine HB.znr.mM rfl rfl rfl (cs:=(zz um++zz 0).map B) rfl zc (by rw [yf];exact zd 16) (by rw [yf];exact HT.znr.2) (zg _) ?_)
   intro w5 hb ho
   have zhX:=zk HB34.znr ho (Nat.le_refl _)
   have HTW:=znq (show zr w5 (some ⟨w3.heap.size,0,none⟩) ((zgn n).map B) from by rw [HT.znr.1];exact hb.lies)
   have HG2:=znq (HG2.znr.below zhX)
   have HG1:=znq (HG1.znr.below zhX)
   have HV:=znq (HV.znr.below zhX)
   have HC:=znq (HC.znr.later zhX)
   have HCI:=znq (HK.znr w5 (HC.znr.up hin))
   have hkl:k.least≤sz:=by
    have h1:=least_le k
    omega
   have HG1S:=znq HG1.znr.slice
   have hslc:=HG1S.znr.1
   clear hb ho zhX HB HB34
   generalize w3.heap.size=tb at *
   go_wp2_with fail
   refine (zne cp k (some ⟨tb,0,none⟩) 16 16 (zgn n) ao sz cap (u.sec n) _ HCI.znr (zq2 n) (by omega) (by omega) HTW.znr HSE.znr.2.2.2.2 hkl (by omega) hslc HG1S.znr.2).mono ?_
   rintro e w6 ⟨val,rfl,hown,hbel⟩
   obtain ⟨aw,cw,rfl,hcw,_,hlw⟩:=zw hown
   have HLR:=znq ((HG2.znr.below hbel).slice.2)
   have HV:=znq (HV.znr.below hbel)
   have HC:=znq (HC.znr.later hbel)
   have hlen:(xM k (zgn n) (u.sec n) false).length=sz:=by rw [q7 _ _ (by rw [HSE.znr.2.2.2.2];exact hkl)];exact HSE.znr.2.2.2.2
   have F1:=yL w6 ar sz cr _ hlen HLR.znr
   have F2:=yL w6 aw sz cw _ hlen hlw
   generalize str (xM k (zgn n) (u.sec n) false)=s1 at *
   clear hown hlw hbel hlen
   go_wp2
   go_roundw
   case rel=>exact ⟨n+1,u2,by omega,by go_num,HL2,HV,HC⟩
   case measure=>simp [intOf];omega
  ·obtain rfl:sc=n:=by omega
   go_wp2
   go_ret
   exact ⟨rfl,⟨u,HLO.znr,HV.znr⟩,HC.znr⟩
theorem zt8 (alg size secs:Int) (a1:Option Addr) (n1 c1:Nat) (key:List UInt8) (a2:Option Addr) (n2 c2:Nat) (xs:List zmm) (a3:Option Addr) (n3 c3:Nat) (zaC:List UInt8) (w:World) (hkn:key.length=n1) (hkc:n1≤c1) (hkl:zr w a1 (key.map B)) (hxn:xs.length=n2) (hnm:n2≤maxLen) (hx:zlo w a2 xs) (hg:pQ w) (hbg:qD w) (zhV:zaC.length=n3) (zeX:n3≤c3) (zhW:zr w a3 (zaC.map B)) :
  Calls Tryz.prog 12 #[.agg (zik alg size secs a1 n1 c1 a2 n2 c2).toArray,.slice a3 n3 c3] w fun e w'=>e=.returned (.bool true)∧Below w.heap.size w w':=by
 have zdE:=znq zhV
 have zeY:=znq zhW
 have zaP:nU alg size secs n3=0∨(nU alg size secs n3 != 0)=true:=by
  by_cases h:nU alg size secs n3=0
  ·exact .inl h
  ·exact .inr (by simpa using h)
 have hlong:decide ((n3:Int) > 200)=true∨decide ((n3:Int) > 200)=false:=by cases decide ((n3:Int) > 200) <;> simp
 clear zhV zhW
 have HS:=znq (St.start w)
 have HKN:=znq hkn
 have HKL:=znq hkl
 have HXN:=znq hxn
 have HX:=znq hx
 have HG:=znq hg
 have HBG:=znq hbg
 have HNM:=znq hnm
 have hwz:nU alg size secs n1=0∨(nU alg size secs n1 != 0)=true:=by
  by_cases h:nU alg size secs n1=0
  ·exact .inl h
  ·exact .inr (by simpa using h)
 clear hkn hkl hxn hx hg hbg hnm
 go_enter Tryz.func12,Tryz.ntmps12
 go_wp2_with (refine zh 47 _ (zik alg size secs a1 n1 c1 a2 n2 c2) _ rfl rfl rfl rfl ?_)
 intro w1 hb hbel;have HS:=znq (HS.znr.push hb hbel);clear hb hbel
 go_wp2_with (refine (HS.znr.get 0 rfl).mP rfl rfl rfl zhr rfl ?_)
 refine (zq9 alg size secs a1 n1 c1 a2 n2 c2 xs _ HXN.znr HNM.znr (HX.znr.below HS.znr.bel)).mono ?_
 rintro e w2 ⟨⟨b,rfl,pY⟩,hbel⟩
 have HS:=znq (HS.znr.later hbel)
 clear hbel
 cases b
 ·clear hwz pY
  go_wp2
  go_ret
  exact ⟨rfl,HS.znr.bel⟩
 have h12:=pY rfl
 have hx0:=(HS.znr.get 0 rfl).cell 0 _ rfl
 have hx1:=(HS.znr.get 0 rfl).cell 1 _ rfl
 have hx2:=(HS.znr.get 0 rfl).cell 2 _ rfl
 have hx3:=(HS.znr.get 0 rfl).cell 3 _ rfl
 clear pY
 go_wp2_with fail
 refine (zlk alg size secs a1 n1 c1 _).mono ?_
 rintro e w3 ⟨rfl,hbel⟩
 have HS:=znq (HS.znr.later hbel)
 clear hbel hx0 hx1 hx2 hx3
 rcases hwz with hwz | hwz
 rotate_left
 ·go_wp2
  go_ret
  exact ⟨rfl,HS.znr.bel⟩
 obtain ⟨sz,sc,hsz,hsc,hz,hs,hw⟩:=zmq hwz
 rw [hwz]
 subst hsz hsc
 have HW:=znq hw
 clear hwz hw
 have hx0:=(HS.znr.get 0 rfl).cell 0 _ rfl
 have hx1:=(HS.znr.get 0 rfl).cell 1 _ rfl
 have hx2:=(HS.znr.get 0 rfl).cell 2 _ rfl
 go_wp2_with fail
 refine (zlk alg sz sc a3 n3 c3 _).mono ?_
 rintro e w3' ⟨rfl,hbel⟩
 have HS:=znq (HS.znr.later hbel)
 clear hbel hx0 hx1 hx2
 rcases zaP with zaP | zaP
 rotate_left
 ·go_wp2
  go_ret
  exact ⟨rfl,HS.znr.bel⟩
 rw [zaP]
 rcases hlong with hlong | hlong
 ·clear zaP
  go_wp2
  go_ret
  exact ⟨rfl,HS.znr.bel⟩
 have HW3:=znq (zsb zaP)
 clear zaP
 go_wp2_with (refine (HS.znr.get 0 rfl).mP rfl rfl rfl zhr rfl ?_)
 have zcH:=(HS.znr.get 0 rfl).lt
 refine (zng [] alg sz sc a1 n1 c1 key a2 n2 c2 _ hz hs HW.znr HKN.znr hkc (HKL.znr.below HS.znr.bel) (HG.znr.below HS.znr.bel) (HBG.znr.below HS.znr.bel) (by simp)).mono ?_
 rintro e w4 ⟨vp,sp,rfl,rU,hbel⟩
 obtain ⟨q,p,hvx,hvp,hsp⟩:=zr9 rU
 have HV:=znq hvx
 have hz3:=HS.znr.size
 have HS:=znq (HS.znr.later hbel)
 have hvl:=hvx.lt
 have zlP:w.heap.size≠vp∧w.heap.size≠sp:=by omega
 have sV:w.heap.size≤vp:=by omega
 have sW:w.heap.size≤sp:=by omega
 clear rU hbel hvx
 clear hlong
 obtain ⟨v0,hv0⟩:∃ v,v=zim alg sz sc key:=⟨_,rfl⟩
 have H0:=znq (show v0.pg∧v0.size=sz∧v0.mK=sc∧v0.reads=0∧v0.writes=0∧(∀ m,m < sc→v0.sec m=zf sz)∧v0.next=none∧v0.now=jy alg key∧v0.alg=alg from ⟨by rw [hv0];exact zlp hz hs,by rw [hv0];rfl,by rw [hv0];rfl,by rw [hv0];rfl,by rw [hv0];rfl,fun m hm=>by rw [hv0];exact zq0 hz.1 hm,by rw [hv0];rfl,by rw [hv0];rfl,by rw [hv0];rfl⟩)
 rw [← hv0] at HV
 clear hv0
 have hy0:=fun (z:zG w4.drew)=>((HS.znr.drew.later z.later).get 0 rfl).cell 0 _ rfl
 have hy3:=fun (z:zG w4.drew)=>((HS.znr.drew.later z.later).get 0 rfl).cell 3 _ rfl
 have hvl4:=HV.znr.lt
 go_wp2_with fail
 refine zn [1,2,3,4,5,0,6,7,8,9,10,11] (by kernel_rfl) (by kernel_rfl) ?_
 rintro w5 rfl
 refine mqR ?_
 clear hy0 hy3
 have HS:=znq HS.znr.drew
 have HV:=znq (HV.znr.below (Below.refl w4.heap.size w4).drew)
 have hz5:w4.heap.size=w4.drew.heap.size:=rfl
 generalize w4.drew=w5 at *
 refine zi rfl rfl (by rfl) (fun K hK=>?_)
 go_simp
 refine (zq1 _ (HG.znr.below HS.znr.bel)).mono ?_
 rintro e w6 ⟨q3,p3,rfl,ht,hqp,hbel⟩
 have HT3:=znq ht
 have HV:=znq (HV.znr.below hbel)
 have HS:=znq (HS.znr.later hbel)
 have hz6:=hbel.size
 go_simp
 refine hK _ _ hbel ?_
 clear hK K hbel ht
 refine zi rfl rfl (by rfl) (fun K hK=>?_)
 go_simp
 refine (zgk alg q3 p3 a1 n1 c1 key _ HKN.znr HW.znr hkc (HKL.znr.below HS.znr.bel) HT3.znr (HBG.znr.below HS.znr.bel)).mono ?_
 rintro e w7 ⟨cp1,rfl,hst,hbel⟩
 have HC1:=znq (show zij [vp,sp] w7 (fun w'=>qu w' cp1 (jy alg key)) from zij.zaZ hst (Below.refl _ _) (fun i hi=>by simp at hi;exact .inr ⟨by omega,by simp;omega⟩))
 have HV:=znq (HV.znr.below hbel)
 have HS:=znq (HS.znr.later hbel)
 have hz7:=hbel.size
 go_simp
 refine hK _ _ hbel ?_
 clear hK K hbel hst HT3
 refine mqR ?_
 refine zo ?_
 have hy0:=fun (z:zG w7.drew)=>((HS.znr.drew.later z.later).get 0 rfl).cell 0 _ rfl
 go_wp2_with fail
 refine zn [1,2,3,4,0,5,6,7,8,9,10] (by kernel_rfl) (by kernel_rfl) ?_
 rintro w8 rfl
 refine mqR ?_
 clear hy0
 have HS:=znq HS.znr.drew
 have HV:=znq (HV.znr.below (Below.refl w7.heap.size w7).drew)
 have HC1:=znq (HC1.znr.below (Below.refl w7.heap.size w7).drew)
 have hz8:w7.heap.size=w7.drew.heap.size:=rfl
 generalize w7.drew=w8 at *
 refine zi rfl rfl (by rfl) (fun K hK=>?_)
 go_simp
 refine (zq1 _ (HG.znr.below HS.znr.bel)).mono ?_
 rintro e w9 ⟨q4,p4,rfl,ht,hqp4,hbel⟩
 have HT3:=znq ht
 have HV:=znq (HV.znr.below hbel)
 have HC1:=znq (HC1.znr.below hbel)
 have HS:=znq (HS.znr.later hbel)
 have hz9:=hbel.size
 go_simp
 refine hK _ _ hbel ?_
 clear hK K hbel ht
 refine zi rfl rfl (by rfl) (fun K hK=>?_)
 go_simp
 refine (zgk alg q4 p4 a3 n3 c3 zaC _ zdE.znr HW3.znr zeX (zeY.znr.below HS.znr.bel) HT3.znr (HBG.znr.below HS.znr.bel)).mono ?_
 rintro e w10 ⟨cp2,rfl,hst,hbel⟩
 have HC2:=znq (show zij [vp,sp] w10 (fun w'=>qu w' cp2 (jy alg zaC)) from zij.zaZ hst (Below.refl _ _) (fun i hi=>by simp at hi;exact .inr ⟨by omega,by simp;omega⟩))
 have HV:=znq (HV.znr.below hbel)
 have HC1:=znq (HC1.znr.below hbel)
 have HS:=znq (HS.znr.later hbel)
 go_simp
 refine hK _ _ hbel ?_
 clear hK K hbel hst HT3 hz5 hz6 hz7 hz8 hz9 hqp hqp4
 refine mqR ?_
 refine zo ?_
 obtain ⟨k1,hk1⟩:∃ k,k=jy alg key:=⟨_,rfl⟩
 obtain ⟨k2,hk2⟩:∃ k,k=jy alg zaC:=⟨_,rfl⟩
 have HKK:=znq (And.intro hk1 hk2)
 rw [← hk1] at HC1
 rw [← hk2] at HC2
 have HL0:=znq (show zq4 sz sc alg k1 0 0 v0 from ⟨H0.znr.1,H0.znr.2.1,H0.znr.2.2.1,H0.znr.2.2.2.2.2.2.2.2,by rw [H0.znr.2.2.2.2.2.2.2.1,hk1],H0.znr.2.2.2.2.2.2.1,by rw [H0.znr.2.2.2.1];omega,by rw [H0.znr.2.2.2.2.1];omega⟩)
 clear hk1 hk2 H0
 have hx4:=(HS.znr.get 0 rfl).cell 4 _ rfl
 go_wp2
 clear hx4
 go_loopw [11] (fun c wr=>∃ (j:Nat) (v:Vol),j≤n2∧c=.int .i64 j∧Hid (zq4 sz sc alg k1 (1000*j) (1000*j) v)∧Hid (kq [vp,sp] q p vp sp wr v)∧Hid (zij [vp,sp] wr (fun w'=>qu w' cp1 k1))∧Hid (zij [vp,sp] wr (fun w'=>qu w' cp2 k2))∧Hid (St w w.heap.size wr [(w.heap.size,zik alg sz sc a1 n1 c1 a2 n2 c2,47)])) (fun c _=>n2 - (intOf c).toNat)
 case atStart=>exact ⟨0,v0,by omega,rfl,HL0,HV,HC1,HC2,HS⟩
 case round =>
  clear HS HV HL0 HC1 HC2
  obtain ⟨j,v,hj,rfl,HO,HV,HC1,HC2,HS⟩:=hrel
  have hx4:=(HS.znr.get 0 rfl).cell 4 _ rfl
  by_cases hlt:j < n2
  ·obtain ⟨x,hxi⟩:∃ x,xs[j]? = some x:=⟨xs[j]'(by rw [HXN.znr];exact hlt),by simp⟩
   obtain ⟨zeG,ab,zbH,rfl,_,hr⟩:=(HX.znr.below HS.znr.bel).at hxi
   obtain ⟨rO,_⟩:=HX.znr.at hxi
   have HXI:=znq (show x.bs.length≤x.cap∧zr w x.ao (x.bs.map B) from ⟨rO.cap.1,rO.lies⟩)
   have hc0:wr.cell? ⟨ab,zbH+j*4,none⟩=some (.int .i64 x.kind):=hr 0 (.int .i64 x.kind) rfl
   have hc1:=hr 1 (.int .i64 x.n) rfl
   have hc2:=hr 2 (.slice x.ao x.bs.length x.cap) rfl
   have hc3:=hr 3 (B x.by') rfl
   have HXX:=znq (And.intro hxi trivial)
   clear zeG rO hr hxi
   have hds:=zrw HO.znr.pq (pW x.kind) x.n x.bs x.by'
   obtain ⟨r,hr⟩:∃ r,r=v.act (pW x.kind) x.n x.bs x.by':=⟨_,rfl⟩
   rw [← hr] at hds
   have HRR:=znq hr
   have HDS:=znq hds
   clear hr hds
   go_wp2_with fail
   refine (zqw x _).mono ?_
   rintro e w8 ⟨rfl,hbel⟩
   have HV:=znq (HV.znr.below hbel)
   have HC1:=znq (HC1.znr.below hbel)
   have HC2:=znq (HC2.znr.below hbel)
   have HS:=znq (HS.znr.later hbel)
   clear hbel hx4 hc0 hc1 hc2 hc3
   obtain ⟨kd,hkd⟩:∃ kd,kd=pW x.kind:=⟨_,rfl⟩
   have HKD:=znq hkd
   rw [← hkd]
   by_cases h4:kd < 4
   rotate_left
   ·have d4:decide ((kd:Int) < 4)=false:=by simp;omega
    clear hkd
    go_wp2
    go_roundw
    case rel=>exact ⟨j+1,v,by omega,by go_num,⟨HO.znr.pq,HO.znr.size,HO.znr.mK,HO.znr.alg,HO.znr.now,HO.znr.next,by have:=HO.znr.reads;omega,by have:=HO.znr.writes;omega⟩,HV,HC1,HC2,HS⟩
    case measure=>simp [intOf];omega
   have d4:decide ((kd:Int) < 4)=true:=by simp;omega
   have H4:=znq h4
   clear hkd h4
   obtain ⟨_,ab',zhU,he,_,hr⟩:=(HX.znr.below HS.znr.bel).at HXX.znr.1
   cases he
   have hc0:w8.cell? ⟨ab,zbH+j*4,none⟩=some (.int .i64 x.kind):=hr 0 (.int .i64 x.kind) rfl
   have hc1:=hr 1 (.int .i64 x.n) rfl
   have hc2:=hr 2 (.slice x.ao x.bs.length x.cap) rfl
   have hc3:=hr 3 (B x.by') rfl
   clear hr
   have hx4:=(HS.znr.get 0 rfl).cell 4 _ rfl
   go_wp2_with fail
   refine (zsa x HV.znr ⟨by have:=HO.znr.reads;omega,by have:=HO.znr.writes;omega⟩ (HBG.znr.below HS.znr.bel) HXI.znr.1 (zq7 HXI.znr.2 HS.znr.bel (fun i hi=>by simp at hi;omega))).mono ?_
   rintro e w9 ⟨rfl,hv,hc⟩
   rw [← HRR.znr] at hv ⊢
   have HV:=znq hv
   have HC1:=znq (HC1.znr.at (hc.up (by simp)))
   have HC2:=znq (HC2.znr.at (hc.up (by simp)))
   have HS:=znq (HS.znr.chg hc sV sW (by simp;omega))
   clear hv hc hx4 hc0 hc1 hc2 hc3
   obtain ⟨u,hu⟩:∃ u,u=r.1:=⟨_,rfl⟩
   have HU:=znq (show zq4 sz sc alg k1 (1000*(j+1)) (1000*(j+1)) u from by
    have hd:=HDS.znr
    have hn:=hd.next (.inl (by rw [← HKD.znr];exact H4.znr))
    have hh:=HO.znr
    rw [hu]
    exact ⟨hd.pq,by rw [hd.form.2.1];exact hh.size,by rw [hd.form.2.2];exact hh.mK,by rw [hd.form.1];exact hh.alg,by rw [hn.2];exact hh.now,by rw [hn.1];exact hh.next,uj hd.reads (by have:=hh.reads;omega),uj hd.writes (by have:=hh.writes;omega)⟩)
   rw [← hu] at HV
   clear hu HRR HDS
   go_wp2
   go_roundw
   case rel=>exact ⟨j+1,u,by omega,by go_num,HU,HV,HC1,HC2,HS⟩
   case measure=>simp [intOf];omega
  obtain rfl:n2=j:=by omega
  have hx2:=(HS.znr.get 0 rfl).cell 2 _ rfl
  go_wp2_with fail
  refine (zs4 cp1 HV.znr (by simp) HO.znr HC1.znr (by omega)).mono ?_
  rintro e w11 ⟨rfl,⟨u,hlu,hv⟩,hc⟩
  have HU:=znq hlu
  have HV:=znq hv
  have HC2:=znq (HC2.znr.at (hc.up (by simp)))
  have HS:=znq (HS.znr.chg hc sV sW (by simp;omega))
  clear hlu hv hc hx2 hx4
  have HAL:=znq (show u.all zaC=(u.r9 k2,0) from by unfold Vol.all;rw [HU.znr.next];simp only;rw [HU.znr.alg,zdE.znr,if_pos HW3.znr,HKK.znr.2])
  go_wp2_with fail
  refine (zhS a3 n3 c3 zaC HV.znr zdE.znr zeX (zeY.znr.below HS.znr.bel) (HBG.znr.below HS.znr.bel)).mono ?_
  rintro e w12 ⟨rfl,hv,hc⟩
  rw [HAL.znr] at hv ⊢
  have HU2:=znq (show zq4 sz sc alg k2 (1000*n2+sc) (1000*n2) (u.r9 k2) from by
   obtain ⟨g0,g1,g2,g3,g4,_⟩:=zsw HU.znr.pq HU.znr.next (k:=k2) (by rw [HKK.znr.2];exact znp _ _ HU.znr.pq.size.1)
   obtain ⟨f0,f1,f2⟩:=zr1 u k2
   exact ⟨g0,by rw [g1];exact HU.znr.size,by rw [g2];exact HU.znr.mK,by rw [f0.1];exact HU.znr.alg,g4,g3,by rw [f1];exact HU.znr.reads,by rw [f2];exact HU.znr.writes⟩)
  have HV:=znq hv
  have HC2:=znq (HC2.znr.at (hc.up (by simp)))
  have HS:=znq (HS.znr.chg hc sV sW (by simp;omega))
  clear hv hc
  have hx2:=(HS.znr.get 0 rfl).cell 2 _ rfl
  go_wp2_with fail
  refine (zs4 cp2 HV.znr (by simp) HU2.znr HC2.znr (by omega)).mono ?_
  rintro e w13 ⟨rfl,⟨u',hlu,hv⟩,hc⟩
  have HS:=znq (HS.znr.chg hc sV sW (by simp;omega))
  clear hlu hv hc hx2
  go_wp2_with fail
  refine (zra _ (HG.znr.below HS.znr.bel) (HBG.znr.below HS.znr.bel)).mono ?_
  rintro e w9 ⟨rfl,hbel⟩
  have HS:=znq (HS.znr.later hbel)
  clear hbel
  go_wp2
  go_ret
  exact ⟨rfl,HS.znr.bel⟩
end Go.Proofs.YtjaioajjfiaheaaGreatDoor

/-
  Texts of this claim, one behind the other.
-/
import Derived.Test.YtjaioajjfiaheaaGreatDoorV1
import Derived.Test.YtjaioajjfiaheaaGreatDoorV25
import Derived.Lib.Hide
set_option linter.unusedVariables false
set_option linter.unusedSimpArgs false
set_option maxHeartbeats 16000000
set_option maxRecDepth 100000
open List renaming mem_cons→uB
open Nat renaming le_refl→xc,mul_le_mul→mg
namespace Go.Proofs.YtjaioajjfiaheaaGreatDoor
open RowKit Mem Ops Cells Oct Trn Aes Ring Ezk Blake Adi Hct Wid Vol Fl ru
attribute [local irreducible] zE zN zO zM yu
theorem zsz {w:World} {F:List Nat} {q vp sp:Nat} {v:Vol} {load:Value} {np:Nat} {xp:Value} (h:y4 104 F w q vp sp v load np xp) :
  Calls Tryz.prog 41 #[.pointer (some ⟨vp,0,none⟩)] w fun e w'=>e=.returned load∧w=w':=by
 have hc:=h.cells.cell 8 _ rfl
 clear h
 go_enter Tryz.func41,Tryz.ntmps41
 go_wp2
 go_ret
 exact ⟨rfl,rfl⟩
theorem ztz {w:World} {F:List Nat} {q vp sp:Nat} {v:Vol} {np:Nat} {xp:Value} (k:Int) (x:UInt8) (h:y4 104 F w q vp sp v (y5 v) np xp) :
  Calls Tryz.prog 37 #[.pointer (some ⟨vp,0,none⟩),.int .i64 k,B x] w fun e w'=>e=.returned (.int .i64 (v.harm k x).2)∧y4 104 F w' q vp sp (v.harm k x).1 (y5 (v.harm k x).1) np xp∧Chg vp sp w w':=by
 have hs0:=h.pq.size
 have hs1:=h.pq.mK
 have h1m:v.size*v.mK≤1048576:=mg hs0.2 hs1.2
 have hc7:=h.cells.cell 7 (.slice (some ⟨sp,0,none⟩) (v.size*v.mK) (v.size*v.mK)) rfl
 have HV:=znq h
 have HLEN:=znq h.pq.len
 obtain ⟨r,hr⟩:∃ r,r=v.harm k x:=⟨_,rfl⟩
 rw [← hr]
 unfold Vol.harm at hr
 obtain ⟨st,hst⟩:∃ st,st=v.size*v.mK:=⟨_,rfl⟩
 rw [← hst] at hc7 h1m hr
 have HST:=znq (hst.symm.trans (id rfl):v.size*v.mK=st)
 by_cases h0:k < 0
 ·have d0:decide (k < 0)=true:=by simp;omega
  have HR:=znq (show r=(v,11) from by rw [hr,if_neg (by omega)])
  clear h hr h0 hst hs0 hs1
  go_enter Tryz.func37,Tryz.ntmps37
  go_wp2
  go_ret
  rw [HR.znr]
  exact ⟨rfl,HV.znr,Chg.refl _ _ _⟩
 have d0:decide (k < 0)=false:=by simp;omega
 by_cases h1:(st:Int)≤k
 ·have d1:decide (k≥(st:Int))=true:=by simp;omega
  have d2:decide ((st:Int)≤k)=true:=by simp;omega
  have HR:=znq (show r=(v,11) from by rw [hr,if_neg (by omega)])
  clear h hr h0 h1 hst hs0 hs1
  go_enter Tryz.func37,Tryz.ntmps37
  go_wp2
  go_ret
  rw [HR.znr]
  exact ⟨rfl,HV.znr,Chg.refl _ _ _⟩
 obtain ⟨m,rfl⟩:∃ m:Nat,k=(m:Int):=⟨k.toNat,by omega⟩
 have hm:m < st:=by omega
 have d1:decide ((m:Int)≥(st:Int))=false:=by simp;omega
 have d2:decide (st≤m)=false:=by simp;omega
 have HR:=znq (show r=(v.pX m x,0) from by rw [hr,if_pos (by omega),Int.toNat_natCast])
 obtain ⟨y,hy⟩:∃ y,v.store[m]? = some y:=⟨v.store[m]'(by rw [HLEN.znr,HST.znr];exact hm),by simp⟩
 have hc:=h.store.cell m (B y) (zU hy)
 have HSE:=znq (show (v.store.map B).set m (B (ya y x))=((v.pX m x).store).map B from by
  rw [ym]
  show _=(v.store.set m (v.store.getD m 0 ^^^ x)).map B
  rw [List.getD_eq_getElem?_getD,hy]
  rfl)
 have hfit:m < (v.store.map B).length:=by rw [List.length_map,HLEN.znr,HST.znr];exact hm
 clear h hr h0 h1 hst hs0 hs1 hy
 go_enter Tryz.func37,Tryz.ntmps37
 go_wp2_with (refine HV.znr.store.ry (i:=m) (v:=B (ya y x)) rfl rfl rfl rfl zl rfl rfl hfit ?_)
 intro w2 hb ho
 rw [HSE.znr] at hb
 have HZ:=znq (show y4 104 F w2 q vp sp (v.pX m x) (y5 (v.pX m x)) np xp∧Chg vp sp w w2 from by
  have hch:=Chg.rA (vp:=vp) (zI.nH ho)
  exact ⟨HV.znr.to hch (HV.znr.cells.only ho HV.znr.ne) hb (HV.znr.pq.pX m x) rfl rfl,hch⟩)
 clear hb ho hc
 go_wp2
 go_ret
 rw [HR.znr]
 exact ⟨rfl,HZ.znr.1,HZ.znr.2⟩
structure zrr (F:List Nat) (w:World) (q p:Nat):Prop where
 tab:zij F w (fun w'=>Tab w' q p)
 q:q∉F
 p:p∉F
 lt:∀ i∈F,i < w.heap.size
theorem zrr.at {F:List Nat} {w w':World} {q p:Nat} (h:zrr F w q p) (hu:Up (zsm F) w w'):zrr F w' q p:=⟨h.tab.at hu,h.q,h.p,fun i hi=>Nat.lt_of_lt_of_le (h.lt i hi) hu.size⟩
theorem zrr.below {F:List Nat} {w w':World} {q p:Nat} (h:zrr F w q p) (hb:Below w.heap.size w w'):zrr F w' q p:=h.at (Up.of_below hb)
theorem zml:(Tryz.prog.info? 28).map (·.size)=some 1:=by kernel_rfl
theorem zrs {w:World} {F:List Nat} {q p vp sp:Nat} {v:Vol} {np:Nat} {xp:Value} (ka:Option Addr) (kn kc:Nat) (key:List UInt8) (h:y4 104 F w q vp sp v (y5 v) np xp) (ht:zrr F w q p) (hkn:key.length=kn) (hkc:kn≤kc) (hkl:zr w ka (key.map B)) (hg:qD w) :
  Calls Tryz.prog 34 #[.pointer (some ⟨vp,0,none⟩),.slice ka kn kc] w fun e w'=>e=.returned (.int .i64 (v.start key).2)∧(∃ xp',y4 104 F w' q vp sp (v.start key).1 (y5 (v.start key).1) np xp')∧Chg vp sp w w':=by
 have hc5:=h.cells.cell 5 xp rfl
 have HV:=znq h
 obtain ⟨r,hr⟩:∃ r,r=v.start key:=⟨_,rfl⟩
 rw [← hr]
 unfold Vol.start at hr
 cases hx:v.next with
 | some k =>
  rw [hx] at hr
  have HR:=znq (show r=(v,12) from hr)
  have hnx:=h.next
  rw [hx] at hnx
  obtain ⟨x,rfl,_⟩:=hnx
  clear h hr hx hkl hg ht
  go_enter Tryz.func34,Tryz.ntmps34
  go_wp2
  go_ret
  rw [HR.znr]
  exact ⟨rfl,⟨_,HV.znr⟩,Chg.refl _ _ _⟩
 | none =>
  rw [hx] at hr
  simp only at hr
  have hnx:=h.next
  rw [hx] at hnx
  obtain rfl:xp=.pointer none:=hnx
  have hc0:=fun (y:zG w.drew)=>(h.cells.drew.below y.later h.cells.drew.lt).cell 0 _ rfl
  have hc1:=fun (y:zG w.drew)=>(h.cells.drew.below y.later h.cells.drew.lt).cell 1 _ rfl
  have HT:=znq ht
  have HKL:=znq hkl
  have HG:=znq hg
  have HKN:=znq hkn
  have HX:=znq (show v.next=none∧True from ⟨hx,trivial⟩)
  by_cases hw:ni v.alg kn=0
  rotate_left
  ·have d1:(((ni v.alg kn:Nat):Int)==0)=false:=by simp;omega
   have HR:=znq (show r=(v,((ni v.alg kn:Nat):Int)) from by rw [hr,hkn,if_neg hw])
   have HN:=znq (ztu v.alg q ka kn kc w.drew hw)
   clear h hr hx hkl hg ht hw hkn
   generalize ni v.alg kn=wr at *
   generalize v.alg=al at *
   go_enter Tryz.func34,Tryz.ntmps34
   go_wp2_with fail
   refine zn [0,1,2,3,4,5,6,7,8,9,10,11,12,13,14,15] (by kernel_rfl) (by kernel_rfl) ?_
   rintro w2 rfl
   refine mqR ?_
   clear hc0 hc1 hc5
   refine zi rfl rfl (by rfl) (fun K hK=>?_)
   go_simp
   refine HN.znr.mono ?_
   rintro e w3 ⟨rfl,rfl⟩
   go_simp
   refine hK _ _ (Below.refl _ _) ?_
   clear hK K
   refine mqR ?_
   refine zo ?_
   go_wp2
   go_ret
   rw [HR.znr]
   exact ⟨rfl,⟨_,HV.znr.below ((Below.refl _ _).drew)⟩,(Chg.refl _ _ _).drew⟩
  have HR:=znq (show r=(v.begin' (jy v.alg key),0) from by rw [hr,hkn,if_pos hw])
  have HN:=znq (zgk v.alg q p ka kn kc key w.drew hkn hw hkc (hkl.below (Below.refl _ _).drew) (ht.tab.self.drew) (hg.below (Below.refl _ _).drew))
  have HKF:=znq (show zq3 v.size (jy v.alg key) from znp _ _ h.pq.size.1)
  have hlv:=h.cells.lt
  have hls:=h.store.lt
  have hc5b:=h.cells.cell 5 _ rfl
  clear h hr hx hkl hg ht hw hkn
  obtain ⟨al,hal⟩:∃ al,al=v.alg:=⟨_,rfl⟩
  rw [← hal] at HR HN HKF
  simp only [zgl,← hal] at hc0 hc1
  clear hal
  go_enter Tryz.func34,Tryz.ntmps34
  go_wp2_with fail
  refine zn [0,1,2,3,4,5,6,7,8,9,10,11,12,13,14,15] (by kernel_rfl) (by kernel_rfl) ?_
  rintro w2 rfl
  refine mqR ?_
  clear hc0 hc1 hc5 hc5b
  refine zi rfl rfl (by rfl) (fun K hK=>?_)
  go_simp
  refine HN.znr.mono ?_
  rintro e w3 ⟨cp,rfl,hst,hbel⟩
  have HK:=znq (show zij F w3 (fun w'=>qu w' cp (jy al key)) from zij.zaZ hst (Below.refl _ _) (fun i hi=>.inr ⟨HT.znr.lt i hi,by simp only [uB,List.not_mem_nil,or_false];rintro (e | e);exact HT.znr.q (e ▸ hi);exact HT.znr.p (e ▸ hi)⟩))
  have HV:=znq (HV.znr.below (w':=w3) ((Below.refl _ _).drew.trans hbel))
  have HC:=znq (Chg.of_below (vp:=vp) (sp:=sp) (show Below w.heap.size w w3 from (Below.refl _ _).drew.trans hbel))
  go_simp
  refine hK _ _ hbel ?_
  clear hK K hst hbel HN
  refine mqR ?_
  refine zo ?_
  go_wp2_with (refine HV.znr.cells.ry (i:=5) (v:=.pointer (some ⟨cp,0,none⟩)) rfl rfl rfl rfl zml rfl rfl (by simp [zgl]) ?_)
  intro w4 hb4 ho4
  have HB4:=znq hb4
  have HO4:=znq ho4
  clear hb4 ho4
  go_wp2_with (refine HB4.znr.ry (i:=6) (v:=.int .i64 0) rfl rfl rfl rfl Qx rfl rfl (by simp [zgl]) ?_)
  intro w5 hb5 ho5
  have HZ:=znq (show y4 104 F w5 q vp sp (v.begin' (jy al key)) (y5 v) np (.pointer (some ⟨cp,0,none⟩))∧Chg vp sp w w5 from by
   have ho:=HO4.znr.trans ho5
   have hch:=HC.znr.trans (Chg.of_cell (zI.nH ho))
   have hup:Up (zsm F) w3 w5:=(Chg.of_cell (zI.nH ho)).up HV.znr.inF
   exact ⟨⟨HV.znr.pq.begin' HKF.znr,HV.znr.ne,HV.znr.inF,hb5,HV.znr.store.only ho (fun e=>HV.znr.ne e.symm),HV.znr.now.at hup,⟨cp,rfl,HK.znr.at hup⟩⟩,hch⟩)
  clear hb5 ho5
  go_wp2
  go_ret
  rw [HR.znr]
  exact ⟨rfl,⟨_,HZ.znr.1⟩,HZ.znr.2⟩
theorem zs0 {w:World} {F:List Nat} {q vp sp:Nat} {v:Vol} {load:Value} {np:Nat} {xp:Value} (h:y4 104 F w q vp sp v load np xp) (hx:v.next=none) :
  Calls Tryz.prog 36 #[.pointer (some ⟨vp,0,none⟩)] w fun e w'=>e=.returned (.tuple #[.int .i64 0,.int .i64 12])∧w=w':=by
 have hc5:=h.cells.cell 5 xp rfl
 have hnx:=h.next
 rw [hx] at hnx
 obtain rfl:xp=.pointer none:=hnx
 clear h hx
 go_enter Tryz.func36,Tryz.ntmps36
 go_wp2
 go_ret2
 exact ⟨rfl,rfl⟩
theorem zrm {w:World} {F:List Nat} {q vp sp:Nat} {v:Vol} {np:Nat} {xp:Value} (k:ku) (h:y4 104 F w q vp sp v (y5 v) np xp) (hx:v.next=some k) :
  Calls Tryz.prog 36 #[.pointer (some ⟨vp,0,none⟩)] w fun e w'=>e=.returned (.tuple #[.int .i64 ((v.mK - v.moved - 1:Nat):Int),.int .i64 0])∧(∃ np' xp',y4 104 F w' q vp sp (v.step k) (y5 (v.step k)) np' xp')∧Chg vp sp w w':=by
 have hs1:=h.pq.mK
 have hnx:=h.next
 rw [hx] at hnx
 obtain ⟨x,rfl,hkx⟩:=hnx
 have hmv:=(h.pq.next k hx).2
 have HKX:=znq hkx
 have hc5:=h.cells.cell 5 _ rfl
 have H0:=znq h
 have hlen:=zry h.pq hx
 obtain ⟨va,hva⟩:∃ u,u={ v with store:=zil v.size v.now v.store v.moved true }:=⟨_,rfl⟩
 obtain ⟨vb,hvb⟩:∃ u,u={ v with store:=zil v.size k (zil v.size v.now v.store v.moved true) v.moved false }:=⟨_,rfl⟩
 have HVA:=znq (show va.pg∧va.now=v.now∧va.next=v.next∧va.store=zil v.size v.now v.store v.moved true∧(∀ np xp load,zgl q va np xp sp load=zgl q v np xp sp load)∧y5 va=y5 v∧va.size=v.size∧va.mK=v.mK∧va.moved=v.moved from by
  subst hva;exact ⟨⟨h.pq.size,h.pq.mK,hlen.1,h.pq.now,h.pq.next⟩,rfl,rfl,rfl,fun _ _ _=>rfl,rfl,rfl,rfl,rfl⟩)
 have HVB:=znq (show vb.pg∧vb.now=v.now∧vb.next=v.next∧vb.store=zil v.size k (zil v.size v.now v.store v.moved true) v.moved false∧(∀ np xp load,zgl q vb np xp sp load=zgl q v np xp sp load)∧y5 vb=y5 v from by
  subst hvb;exact ⟨⟨h.pq.size,h.pq.mK,hlen.2,h.pq.now,h.pq.next⟩,rfl,rfl,rfl,fun _ _ _=>rfl,rfl⟩)
 have HL:=znq (show v.now.least≤v.size∧k.least≤v.size from ⟨h.pq.now.least,(h.pq.next k hx).1.least⟩)
 have HX:=znq (show v.next=some k∧True from ⟨hx,trivial⟩)
 have HM:=znq hmv
 obtain ⟨left,hleft⟩:∃ l,l=v.mK - v.moved - 1:=⟨_,rfl⟩
 rw [← hleft]
 have HLF:=znq hleft
 clear hva hvb hlen hx hkx h hleft
 go_enter Tryz.func36,Tryz.ntmps36
 go_wp2
 have hk4:=fun (y:xR zW w.drew)=>(H0.znr.cells.drew.below y.rel H0.znr.cells.drew.lt).cell 4 _ rfl
 have hk6:=fun (y:xR zW w.drew)=>(H0.znr.cells.drew.below y.rel H0.znr.cells.drew.lt).cell 6 _ rfl
 go_wp2_with fail
 refine Yh zW [9] [(0,true),(1,true),(2,true),(3,true),(4,true),(5,true),(6,true),(7,true),(8,true),(9,false)] zW.refl (fun _ _ _ h k=>h.trans k) (by kernel_rfl) (by kernel_rfl) ?_
 rintro w2 rfl
 iterate 9 refine m1K ?_
 have HD:=znq (H0.znr.below (w':=w.drew) (Below.refl _ _).drew)
 clear hk4 hk6 hc5
 refine xL rfl (by rfl) (fun K hK=>?_)
 go_simp
 refine (zrk np v.now v.moved true HD.znr HD.znr.now.self HL.znr.1 HM.znr).mono ?_
 rintro e w3 ⟨⟨z,rfl⟩,hb3,ho3⟩
 have HC:=znq (show Chg vp sp w w3 from (Chg.refl _ _ _).drew.trans (Chg.rA ho3))
 have HXA:=znq (show y4 104 F w3 q vp sp va (y5 va) np (.pointer (some ⟨x,0,none⟩)) from H0.znr.to HC.znr (by rw [HVA.znr.2.2.2.2.1,HVA.znr.2.2.2.2.2.1];exact HD.znr.cells.pR ho3 H0.znr.ne) (by rw [HVA.znr.2.2.2.1];exact hb3) HVA.znr.1 HVA.znr.2.1 HVA.znr.2.2.1)
 clear hb3 ho3 HD
 go_simp
 refine hK _ _ (fun hno=>absurd hno (by decide)) ?_
 clear hK K
 refine kN ?_
 have hce:=HVA.znr.2.2.2.2.1
 have hk5:=fun (y:xR zW w3.drew)=>(HXA.znr.cells.drew.below y.rel HXA.znr.cells.drew.lt).cell 5 (.pointer (some ⟨x,0,none⟩)) (by rw [hce];rfl)
 have hk6:=fun (y:xR zW w3.drew)=>(HXA.znr.cells.drew.below y.rel HXA.znr.cells.drew.lt).cell 6 (.int .i64 v.moved) (by rw [hce];rfl)
 clear hce
 go_wp2_with fail
 refine Yh zW [9] [(0,true),(1,true),(2,true),(3,true),(4,true),(5,true),(6,true),(7,true),(8,true),(9,false)] zW.refl (fun _ _ _ h k=>h.trans k) (by kernel_rfl) (by kernel_rfl) ?_
 rintro w4 rfl
 iterate 9 refine m1K ?_
 have HD:=znq (HXA.znr.below (w':=w3.drew) (Below.refl _ _).drew)
 have HC:=znq HC.znr.drew
 clear hk5 hk6 HXA
 refine xL rfl (by rfl) (fun K hK=>?_)
 go_simp
 refine (zrk x k v.moved false HD.znr (HKX.znr _ (HC.znr.up H0.znr.inF)) (by rw [HVA.znr.2.2.2.2.2.2.1];exact HL.znr.2) (by rw [HVA.znr.2.2.2.2.2.2.2.1];exact HM.znr)).mono ?_
 rintro e w5 ⟨⟨z,rfl⟩,hb5,ho5⟩
 rw [HVA.znr.2.2.2.2.2.2.1,HVA.znr.2.2.2.1] at hb5
 have HC:=znq (HC.znr.trans (Chg.rA ho5))
 have HB:=znq (show Blk w5 vp (zgl q v np (.pointer (some ⟨x,0,none⟩)) sp (y5 v)) 104 from by
  have:=HD.znr.cells.pR ho5 H0.znr.ne
  rw [HVA.znr.2.2.2.2.1,HVA.znr.2.2.2.2.2.1] at this
  exact this)
 have HSB:=znq (show Blk w5 sp (vb.store.map B) 5 from by rw [HVB.znr.2.2.2.1];exact hb5)
 clear hb5 ho5 HD
 go_simp
 refine hK _ _ (fun hno=>absurd hno (by decide)) ?_
 clear hK K
 refine kN ?_
 have hc6:=HB.znr.cell 6 (.int .i64 v.moved) rfl
 obtain ⟨m1,hm1⟩:∃ m1,m1=v.moved+1:=⟨_,rfl⟩
 have HFM:=znq (zrq (v:=v) k)
 have HSO:=znq (H0.znr.pq.step HX.znr.1)
 have HSS:=znq (show (v.step k).store=vb.store from by rw [HVB.znr.2.2.2.1];unfold Vol.step;split <;> rfl)
 have HLO:=znq (show y5 (v.step k)=y5 v from by
  obtain ⟨_,_,_,e4,e5⟩:=zq5 v k
  unfold y5
  rw [e4,e5])
 have HCV:=znq (show ∀ np xp load,zgl q (v.step k) np xp sp load=[.pointer (some ⟨q,0,none⟩),.int .i64 v.alg,.int .i64 v.size,.int .i64 v.mK,.pointer (some ⟨np,0,none⟩),xp,.int .i64 (m1:Int),.slice (some ⟨sp,0,none⟩) (v.size*v.mK) (v.size*v.mK),load] from fun np xp load=>by
  obtain ⟨f1,f2,f3,f4,_,_⟩:=HFM.znr
  unfold zgl
  rw [f1,f2,f3,f4,hm1])
 go_wp2_with (refine HB.znr.ry (i:=6) (v:=.int .i64 ((v.moved:Int)+1)) rfl rfl rfl rfl Qx rfl rfl (by simp [zgl]) ?_)
 intro w6 hb6 ho6
 rw [show (v.moved:Int)+1=(m1:Int) by omega] at hb6
 have HB6:=znq (show Blk w6 vp [.pointer (some ⟨q,0,none⟩),.int .i64 v.alg,.int .i64 v.size,.int .i64 v.mK,.pointer (some ⟨np,0,none⟩),.pointer (some ⟨x,0,none⟩),.int .i64 (m1:Int),.slice (some ⟨sp,0,none⟩) (v.size*v.mK) (v.size*v.mK),y5 v] 104 from hb6)
 have HC:=znq (HC.znr.trans (Chg.of_cell (zI.nH ho6)))
 have HSB:=znq (HSB.znr.only ho6 (fun e=>H0.znr.ne e.symm))
 clear hb6 ho6 hc6 HB
 have hk3:=fun (y:zG w6.drew)=>(HB6.znr.drew.below y.later HB6.znr.drew.lt).cell 3 _ rfl
 have hk6:=fun (y:zG w6.drew)=>(HB6.znr.drew.below y.later HB6.znr.drew.lt).cell 6 _ rfl
 have hleft:=HLF.znr
 have hsub:IntKind.i64.wrap ((v.mK:Int) - (m1:Int))=(left:Int):=by
  rw [show (v.mK:Int) - (m1:Int)=(left:Int) by omega];exact IntWalk.i64_in _ (by omega)
 by_cases hl0:left=0
 ·have d1:((left:Int)==0)=true:=by simp;omega
  have zhH:=znq (show (v.step k).next=none∧(v.step k).now=k∧v.moved+1=v.mK from by
   obtain ⟨_,_,_,_,f5,f6⟩:=HFM.znr
   have e:v.moved+1=v.mK:=by omega
   rw [if_pos e] at f5 f6
   exact ⟨f5,f6,e⟩)
  clear hl0 hleft hm1
  generalize (v.mK:Int)=ss at *
  go_wp2_with fail
  refine zn [0,1,2,3,4,5,6,7,8,9,10] (by kernel_rfl) (by kernel_rfl) ?_
  rintro w7 rfl
  refine mqR ?_
  have HB6:=znq HB6.znr.drew
  have HC:=znq HC.znr.drew
  have HSB:=znq HSB.znr.drew
  clear hk3 hk6
  refine zo ?_
  have hk5:=HB6.znr.cell 5 _ rfl
  go_wp2_with (refine HB6.znr.ry (i:=4) (v:=.pointer (some ⟨x,0,none⟩)) rfl rfl rfl rfl zml rfl rfl (by simp) ?_)
  intro w8 hb8 ho8
  have HB8:=znq hb8
  have HO8:=znq ho8
  clear hb8 ho8 hk5
  go_wp2_with (refine HB8.znr.ry (i:=5) (v:=.pointer none) rfl rfl rfl rfl zml rfl rfl (by simp) ?_)
  intro w9 hb9 ho9
  have HC:=znq (HC.znr.trans (Chg.of_cell (zI.nH (HO8.znr.trans ho9))))
  have HSB:=znq ((HSB.znr.only HO8.znr (fun e=>H0.znr.ne e.symm)).only ho9 (fun e=>H0.znr.ne e.symm))
  have HZ:=znq (show y4 104 F w9 q vp sp (v.step k) (y5 (v.step k)) x (.pointer none) from
   ⟨HSO.znr,H0.znr.ne,H0.znr.inF,by rw [HCV.znr,HLO.znr];exact hb9,by rw [HSS.znr];exact HSB.znr,by rw [zhH.znr.2.1];exact HKX.znr.at (HC.znr.up H0.znr.inF),by rw [zhH.znr.1];rfl⟩)
  clear hb9 ho9
  go_wp2
  go_ret2
  exact ⟨rfl,⟨_,_,HZ.znr⟩,HC.znr⟩
 ·have d1:((left:Int)==0)=false:=by simp;omega
  have zhH:=znq (show (v.step k).next=some k∧(v.step k).now=v.now from by
   obtain ⟨_,_,_,_,f5,f6⟩:=HFM.znr
   rw [if_neg (by omega)] at f5 f6
   exact ⟨f5,f6⟩)
  clear hl0 hleft hm1
  generalize (v.mK:Int)=ss at *
  go_wp2_with fail
  refine zn [0,1,2,3,4,5,6,7,8,9,10] (by kernel_rfl) (by kernel_rfl) ?_
  rintro w7 rfl
  refine mqR ?_
  have HB6:=znq HB6.znr.drew
  have HC:=znq HC.znr.drew
  have HSB:=znq HSB.znr.drew
  clear hk3 hk6
  refine zo ?_
  have HZ:=znq (show y4 104 F w6.drew q vp sp (v.step k) (y5 (v.step k)) np (.pointer (some ⟨x,0,none⟩)) from
   ⟨HSO.znr,H0.znr.ne,H0.znr.inF,by rw [HCV.znr,HLO.znr];exact HB6.znr,by rw [HSS.znr];exact HSB.znr,by rw [zhH.znr.2];exact H0.znr.now.at (HC.znr.up H0.znr.inF),by rw [zhH.znr.1];exact ⟨x,rfl,HKX.znr.at (HC.znr.up H0.znr.inF)⟩⟩)
  go_wp2
  go_ret2
  exact ⟨rfl,⟨_,_,HZ.znr⟩,HC.znr⟩
end Go.Proofs.YtjaioajjfiaheaaGreatDoor
namespace Go.Vol
open Wid
theorem zr5 (k:ku):∀ (j:Nat) (v:Vol),q5 k (j+1) v=(q5 k j v).step k
 | 0,_=>rfl
 | j+1,v=>by
  show q5 k (j+1) (v.step k)=(q5 k j (v.step k)).step k
  exact zr5 k j (v.step k)
end Go.Vol
namespace Go.Proofs.YtjaioajjfiaheaaGreatDoor
open RowKit Mem Ops Cells Oct Trn Aes Ring Ezk Blake Adi Hct Wid Vol Fl ru
attribute [local irreducible] zE zN zO zM yu
def zrx (w:World) (vp:Nat):Nat:=match w.cell? ⟨vp,6,none⟩ with
 | some (.int _ n)=>n.toNat
 | _=>0
theorem y4.moved {ty:TypeId} {w:World} {F:List Nat} {q vp sp:Nat} {v:Vol} {load:Value} {np:Nat} {xp:Value} (h:y4 ty F w q vp sp v load np xp):zrx w vp=v.moved:=by
 unfold zrx
 rw [h.cells.cell 6 (.int .i64 v.moved) rfl]
 rfl
abbrev zr6 (vp:Nat) (ka:Option Addr) (kn kc:Nat) (us:Nat→Value):Act:={ tmps:=#[.pointer (some ⟨vp,0,none⟩),.slice ka kn kc,us 2,us 3,us 4,us 5,us 6,us 7,us 8,us 9,us 10,us 11,us 12,us 13,us 14,us 15,us 16,us 17,us 18,us 19,us 20],defers:=[] }
def zs1 (F:List Nat) (q vp sp:Nat) (ka:Option Addr) (kn kc:Nat) (v:Vol) (k:ku) (w:World) (x:Act) (wr:World):Prop :=
 ∃ (j:Nat) (us:Nat→Value) (np:Nat) (xp:Value),x=zr6 vp ka kn kc us∧j < v.mK∧Hid (y4 104 F wr q vp sp (q5 k j (v.begin' k)) (y5 (q5 k j (v.begin' k))) np xp)∧Hid (Chg vp sp w wr)
theorem zs1.intro {F:List Nat} {q vp sp:Nat} {ka:Option Addr} {kn kc:Nat} {v:Vol} {k:ku} {w:World} {x:Act} {wr:World} (j np:Nat) (xp:Value) (hx:x=zr6 vp ka kn kc (fun i=>x.tmps.getD i undef)) (hj:j < v.mK) (hv:y4 104 F wr q vp sp (q5 k j (v.begin' k)) (y5 (q5 k j (v.begin' k))) np xp) (hc:Chg vp sp w wr) :
  zs1 F q vp sp ka kn kc v k w x wr:=⟨j,_,np,xp,hx,hj,hv,hc⟩
theorem ztf {w:World} {F:List Nat} {q p vp sp:Nat} {v:Vol} {np:Nat} {xp:Value} (ka:Option Addr) (kn kc:Nat) (key:List UInt8) (h:y4 104 F w q vp sp v (y5 v) np xp) (ht:zrr F w q p) (hkn:key.length=kn) (hkc:kn≤kc) (hkl:zr w ka (key.map B)) (hg:qD w) :
  Calls Tryz.prog 35 #[.pointer (some ⟨vp,0,none⟩),.slice ka kn kc] w fun e w'=>e=.returned (.int .i64 (v.all key).2)∧(∃ np' xp',y4 104 F w' q vp sp (v.all key).1 (y5 (v.all key).1) np' xp')∧Chg vp sp w w':=by
 have HB:=znq (zrs ka kn kc key h ht hkn hkc hkl hg)
 obtain ⟨r,hr⟩:∃ r,r=v.all key:=⟨_,rfl⟩
 rw [← hr]
 by_cases hs:(v.start key).2=0
 rotate_left
 ·have HR:=znq (show r=v.start key from by
   rw [hr]
   unfold Vol.all Vol.start
   unfold Vol.start at hs
   split
   ·rfl
   ·next hn =>
    rw [hn] at hs
    simp only at hs
    split
    ·next hw=>rw [if_pos hw] at hs;exact absurd rfl hs
    ·rfl)
  obtain ⟨c,hc⟩:∃ c,c=(v.start key).2:=⟨_,rfl⟩
  rw [← hc] at HB hs
  have d0:(c != 0)=true:=by simp;exact hs
  have HC:=znq hc
  clear h ht hkl hg hr hs hc hkn
  go_enter Tryz.func35,Tryz.ntmps35
  go_wp2_with fail
  refine yd 0 (fun _ _=>False) (fun _ _=>0) rfl ?_ (fun _ _ h=>h.elim)
  simp only [q9]
  go_wp2_with fail
  refine HB.znr.mono ?_
  rintro e w2 ⟨rfl,⟨xp',hv⟩,hch⟩
  have HV:=znq hv
  have HCH:=znq hch
  clear hv hch
  go_wp2
  try rw [Exit.nZ]
  go_ret
  rw [HR.znr]
  exact ⟨by show Ending.returned (Value.int .i64 c)=_;rw [HC.znr],⟨_,_,HV.znr⟩,HCH.znr⟩
 obtain ⟨k,hk,hn,hw,HR,hst⟩:∃ k,k=jy v.alg key∧v.next=none∧ni v.alg key.length=0∧Hid (r=(v.r9 k,0)∧True)∧v.start key=(v.begin' k,0):=by
  refine ⟨_,rfl,?_⟩
  unfold Vol.start at hs ⊢
  unfold Vol.all at hr
  cases hn:v.next with
  | some k=>rw [hn] at hs;exact absurd (show (12:Int)=0 from hs) (by decide)
  | none =>
   rw [hn] at hs hr
   simp only at hs hr ⊢
   by_cases hw:ni v.alg key.length=0
   ·rw [if_pos hw] at hr ⊢
    exact ⟨by trivial,hw,⟨hr,trivial⟩,rfl⟩
   ·rw [if_neg hw] at hs
    exact absurd hs (by simp;omega)
 rw [hst] at HB
 simp only at HB
 have hkf:zq3 v.size k:=by rw [hk];exact znp _ _ h.pq.size.1
 have hs1:=h.pq.mK
 have HST:=znq (show ∀ j,j < v.mK→(q5 k j (v.begin' k)).moved=j∧(q5 k j (v.begin' k)).next=some k∧(q5 k j (v.begin' k)).mK=v.mK from fun j hj=>by
  obtain ⟨s1,s2,s3,s4,_,s5⟩:=zrz (k:=k) j (h.pq.begin' hkf) rfl (by show 0+j≤v.mK;omega)
  refine ⟨by rw [s4];show 0+j=j;omega,?_,s3⟩
  by_cases h0:0 < j
  ·rw [(s5 h0).1,if_neg]
   show ¬ 0+j=v.mK
   omega
  ·obtain rfl:j=0:=by omega
   rfl)
 clear h ht hkl hg hr hs hk hw hst hkf hn hkn
 go_enter Tryz.func35,Tryz.ntmps35
 go_wp2_with fail
 refine yd 0 (zs1 F q vp sp ka kn kc v k w) (fun _ wr=>v.mK - zrx wr vp) rfl ?_ ?_
 ·simp only [q9]
  go_wp2_with fail
  refine HB.znr.mono ?_
  rintro e w2 ⟨rfl,⟨xp',hv⟩,hch⟩
  have HV:=znq hv
  have HCH:=znq hch
  clear hv hch
  go_wp2
  exact zs1.intro 0 np xp' rfl (by omega) HV.znr HCH.znr
 ·rintro x wr ⟨j,us,np',xp',rfl,hj,HV,HC⟩
  simp only [zr6]
  obtain ⟨hm,hnx,hss⟩:=HST.znr j hj
  obtain ⟨u,hu⟩:∃ u,u=q5 k j (v.begin' k):=⟨_,rfl⟩
  have HU:=znq (show u.step k=q5 k (j+1) (v.begin' k) from by rw [hu,zr5])
  have HV:=znq (show y4 104 F wr q vp sp u (y5 u) np' xp' from by rw [hu];exact HV.znr)
  rw [← hu] at hm hnx hss
  have HMO:=znq (show zrx wr vp=j from by rw [HV.znr.moved,hm])
  have HX:=znq (show u.next=some k∧True from ⟨hnx,trivial⟩)
  obtain ⟨left,hleft⟩:∃ l,l=v.mK - j - 1:=⟨_,rfl⟩
  have HEL:=znq (show u.mK - u.moved - 1=left from by rw [hm,hss,hleft])
  clear hu hm hnx hss
  by_cases h0:left=0
  ·have d0:decide (0 < left)=false:=by simp;omega
   have HE:=znq (show j+1=v.mK from by omega)
   clear hleft h0
   go_wp2_with fail
   refine (zrm k HV.znr HX.znr.1).mono ?_
   rintro e w3 ⟨rfl,⟨np3,xp3,hv⟩,hch⟩
   rw [HEL.znr]
   rw [HU.znr,HE.znr] at hv
   have HV3:=znq hv
   have HC:=znq (HC.znr.trans hch)
   clear hv hch
   go_wp2
   try rw [Exit.nZ]
   go_ret
   rw [HR.znr.1]
   exact ⟨rfl,⟨_,_,HV3.znr⟩,HC.znr⟩
  ·have d0:decide (0 < left)=true:=by simp;omega
   have hj1:j+1 < v.mK:=by omega
   clear hleft h0
   go_wp2_with fail
   refine (zrm k HV.znr HX.znr.1).mono ?_
   rintro e w3 ⟨rfl,⟨np3,xp3,hv⟩,hch⟩
   rw [HEL.znr]
   rw [HU.znr] at hv
   have HV3:=znq hv
   have HC:=znq (HC.znr.trans hch)
   clear hv hch
   go_wp2
   refine wp_goto ⟨rfl,zs1.intro (j+1) np3 xp3 rfl hj1 HV3.znr HC.znr,?_⟩
   rw [HV3.znr.moved,(HST.znr (j+1) hj1).1,HMO.znr]
   omega
end Go.Proofs.YtjaioajjfiaheaaGreatDoor
namespace Go.Proofs.YtjaioajjfiaheaaGreatDoor
open RowKit Mem Ops Cells Oct Trn Aes Ring Ezk Blake Adi Hct Wid Vol Fl ru
attribute [local irreducible] zE zN zO zM yu
theorem zsr:Row Tryz.prog 83 3:=⟨by kernel_rfl,by kernel_rfl⟩
theorem zto (q np sp:Nat) (alg size mK:Int) (st:Nat):Tryz.prog.built 104 [(0,.pointer (some ⟨q,0,none⟩)),(1,.agg #[.int .i64 alg,.int .i64 size,.int .i64 mK]),(2,.pointer (some ⟨np,0,none⟩)),(5,.slice (some ⟨sp,0,none⟩) st st)] =
  some #[.pointer (some ⟨q,0,none⟩),.int .i64 alg,.int .i64 size,.int .i64 mK,.pointer (some ⟨np,0,none⟩),.pointer none,.int .i64 0,.slice (some ⟨sp,0,none⟩) st st,.complex .f64 0 0]:=by kernel_rfl
def zki (alg:Int) (size mK:Nat) (k:ku) (n:Nat):Vol:=⟨alg,size,mK,k,none,0,zri size k (zf (size*mK)) n,0,0⟩
theorem zr7 (F0:List Nat) (q p:Nat) (alg:Int) (size mK:Nat) (ka:Option Addr) (kn kc:Nat) (key:List UInt8) (w:World) (hz:16≤size∧size≤4096) (hs:1≤mK∧mK≤256) (hw:ni alg kn=0) (hkn:key.length=kn) (hkc:kn≤kc) (hkl:zr w ka (key.map B)) (ht:Tab w q p) (hg:qD w) (hF0:∀ i∈F0,i < w.heap.size∧i≠q∧i≠p) :
  Calls Tryz.prog 49 #[.pointer (some ⟨q,0,none⟩),.agg #[.int .i64 alg,.int .i64 size,.int .i64 mK],.slice ka kn kc] w fun e w'=>∃ vp sp np,e=.returned (.tuple #[.pointer (some ⟨vp,0,none⟩),.int .i64 0]) ∧
   y4 104 (vp::sp::F0) w' q vp sp (zim alg size mK key) (y5 (zim alg size mK key)) np (.pointer none)∧zrr (vp::sp::F0) w' q p∧w.heap.size≤vp∧w.heap.size≤sp∧Below w.heap.size w w':=by
 have HS:=znq (St.start w)
 have HT:=znq ht
 have HKL:=znq hkl
 have HG:=znq hg
 have HKN:=znq hkn
 have HW:=znq hw
 obtain ⟨k,hk⟩:∃ k,k=jy alg key:=⟨_,rfl⟩
 have HKF:=znq (show jy alg key=k∧zq3 size k from ⟨hk.symm,by rw [hk];exact znp alg key hz.1⟩)
 obtain ⟨st,hst⟩:∃ st,st=size*mK:=⟨_,rfl⟩
 have hstm:st≤1048576:=by rw [hst];exact mg hz.2 hs.2
 have e1:IntKind.i64.wrap ((size:Int)*(mK:Int))=(st:Int):=by
  have e:((size:Int)*(mK:Int))=(st:Int):=by rw [hst];push_cast;rfl
  rw [e];exact IntWalk.i64_in _ (by omega)
 have HST:=znq (show size*mK=st∧True from ⟨hst.symm,trivial⟩)
 have HFV:=znq (show zim alg size mK key=zki alg size mK k mK from by unfold zim zki;rw [hk])
 have HOK:=znq (show ∀ n,n≤mK→(zki alg size mK k n).pg from fun n hn=>⟨hz,hs,by
  show (zri _ _ _ _).length=_
  rw [zqv (zd _) HKF.znr.2.least n hn,zd]
  rfl,HKF.znr.2,fun k h=>by cases h⟩)
 have HSZ:=znq hz
 have HSS:=znq hs
 have hq:=ht.tab.lt
 have hp:=ht.boxes.lt
 have d1:decide ((size:Int) < 16)=false:=by simp;omega
 have d2:decide ((size:Int) > 4096)=false:=by simp;omega
 have d3:decide ((mK:Int) < 1)=false:=by simp;omega
 have d4:decide ((mK:Int) > 256)=false:=by simp;omega
 have HF0:=znq hF0
 clear hz hs hw hkn hkl ht hg hk hst hF0
 go_enter Tryz.func49,Tryz.ntmps49
 go_wp2_with (refine zh 83 _ [.int .i64 alg,.int .i64 size,.int .i64 mK] _ rfl rfl rfl rfl ?_)
 intro w1 hb hbel;have HS:=znq (HS.znr.push hb hbel);clear hb hbel
 have hx0:=(HS.znr.get 0 rfl).cell 0 _ rfl
 have hx1:=(HS.znr.get 0 rfl).cell 1 _ rfl
 have hx2:=(HS.znr.get 0 rfl).cell 2 _ rfl
 go_wp2_with fail
 refine (zgk alg q p ka kn kc key _ HKN.znr HW.znr hkc (HKL.znr.below HS.znr.bel) (HT.znr.below HS.znr.bel (xc _)) (HG.znr.below HS.znr.bel)).mono ?_
 rintro e w2 ⟨np,rfl,zlM,hbel⟩
 rw [HKF.znr.1] at zlM
 have HSTD:=znq zlM
 have hz1:=HS.znr.size
 have HS:=znq (HS.znr.later hbel)
 have hz2:=HS.znr.size
 have HB2:=znq hbel
 clear zlM hbel hx0 hx1 hx2
 have hx1:=fun (y:zG w2.drew)=>((HS.znr.drew.later y.later).get 0 rfl).cell 1 _ rfl
 have hx2:=fun (y:zG w2.drew)=>((HS.znr.drew.later y.later).get 0 rfl).cell 2 _ rfl
 go_wp2_with fail
 refine zn [0,1,2,3,4,5,6,7,8,9,10,11] (by kernel_rfl) (by kernel_rfl) ?_
 rintro w3 rfl
 refine mqR ?_
 have HS:=znq HS.znr.drew
 refine zt (HS.znr.get 0 rfl).range (HS.znr.get 0 rfl).lt zsr rfl rfl rfl rfl rfl (fun K hK=>?_)
 go_simp;refine hK _ ?_;clear hK K
 refine mqR ?_
 clear hx1 hx2
 have HBX:=znq (show Below w2.heap.size w2 w2.drew from (Below.refl _ _).drew)
 refine zi rfl rfl (by rfl) (fun K hK=>?_)
 refine zpb 22 5 (.int .u8 0) 1 st rfl rfl rfl Tryz.underlying22 yq rfl rfl rfl (by omega) (by unfold maxLen;omega) (fun w4 hb4 nD=>?_)
 rw [zfE] at hb4
 refine hK _ _ nD ?_
 have HS:=znq (HS.znr.push hb4 nD)
 have HBX:=znq (HBX.znr.trans nD)
 have hz4:w2.heap.size < w4.heap.size:=hb4.lt
 clear hK K hb4 nD
 go_simp
 refine kQ rfl rfl (by rfl) 104 _ _ _ rfl rfl (zto q np w2.heap.size alg size mK st) (fun K hK=>?_)
 go_simp
 refine hK _ ?_
 clear hK K
 refine zi rfl rfl (by rfl) (fun K hK=>?_)
 refine zj5 104 _ [.pointer (some ⟨q,0,none⟩),.int .i64 alg,.int .i64 size,.int .i64 mK,.pointer (some ⟨np,0,none⟩),.pointer none,.int .i64 0,.slice (some ⟨w2.heap.size,0,none⟩) st st,.complex .f64 0 0] _ rfl rfl rfl (fun w5 hb5 mX=>hK _ _ mX ?_)
 clear hK K
 have HS:=znq (HS.znr.push hb5 mX)
 have HBX:=znq (HBX.znr.trans (mX.mono (by omega)))
 have hz5:w4.heap.size < w5.heap.size:=hb5.lt
 have hbc:=HS.znr.get 0 rfl
 have hbs:=HS.znr.get 1 rfl
 clear hb5 mX
 go_simp
 refine mqR ?_
 refine zo ?_
 have HVI:=znq (show y4 104 (w4.heap.size::w2.heap.size::F0) w5 q w4.heap.size w2.heap.size (zki alg size mK k 0) (y5 (zki alg size mK k 0)) np (.pointer none) from
  ⟨HOK.znr 0 (by omega),by omega,by simp,by
   have e0:fl 0=0:=Qc
   unfold y5 zgl zki
   simp only [e0]
   rw [HST.znr.1]
   exact hbc,by
   show Blk w5 w2.heap.size ((zf (size*mK)).map B) _
   rw [HST.znr.1]
   exact hbs,zij.zaZ HSTD.znr HBX.znr (fun i hi=>by
   rcases uB.1 hi with rfl | hi
   ·exact .inl (by omega)
   ·rcases uB.1 hi with rfl | hi
    ·exact .inl (xc _)
    ·have h:=HF0.znr i hi
     exact .inr ⟨by omega,by simp;omega⟩),rfl⟩)
 have HTB:=znq (show zrr (w4.heap.size::w2.heap.size::F0) w5 q p from by
  have h5:=HT.znr.below HS.znr.bel (xc _)
  have hqF:q∉w4.heap.size::w2.heap.size::F0:=by
   simp only [uB,not_or]
   exact ⟨by omega,by omega,fun h=>(HF0.znr _ h).2.1 rfl⟩
  have hpF:p∉w4.heap.size::w2.heap.size::F0:=by
   simp only [uB,not_or]
   exact ⟨by omega,by omega,fun h=>(HF0.znr _ h).2.2 rfl⟩
  refine ⟨fun w' hu=>⟨h5.boxes.up hu hpF,h5.tab.up hu hqF⟩,hqF,hpF,fun i hi=>?_⟩
  rcases uB.1 hi with rfl | hi
  ·omega
  ·rcases uB.1 hi with rfl | hi
   ·omega
   ·have h:=HF0.znr i hi
    omega)
 have HBE:=znq HS.znr.bel
 have hvp:w.heap.size≤w4.heap.size:=by omega
 have hsp:w.heap.size≤w2.heap.size:=by omega
 have hx2:=(HS.znr.get 2 rfl).cell 2 _ rfl
 clear hbc hbs d1 d2 d3 d4 e1 hq hp hz1 hz2 hz4 hz5 HSTD HBX HB2 HS HT HKL HG
 generalize w4.heap.size=vp at *
 generalize w2.heap.size=sp at *
 go_wp2
 go_loopw [57] (fun c wr=>∃ n:Nat,n≤mK∧c=.int .i64 n∧Hid (y4 104 (vp::sp::F0) wr q vp sp (zki alg size mK k n) (y5 (zki alg size mK k n)) np (.pointer none))∧Hid (Chg vp sp w5 wr)) (fun c _=>mK - (intOf c).toNat)
 case atStart=>exact ⟨0,by omega,rfl,HVI,Chg.refl _ _ _⟩
 case round =>
  obtain ⟨n,hn,rfl,HV,HC⟩:=hrel
  have hsm:=HSS.znr.2
  by_cases hlt:n < mK
  ·have d0:decide (n < mK)=true:=by simp;omega
   have hc4:=HV.znr.cells.cell 4 (.pointer (some ⟨np,0,none⟩)) rfl
   go_wp2_with fail
   refine (zrk np k n false HV.znr HV.znr.now.self HKF.znr.2.least hlt).mono ?_
   rintro e w6 ⟨⟨z,rfl⟩,hb6,ho6⟩
   have HC:=znq (HC.znr.trans (Chg.rA ho6))
   have HV6:=znq (show y4 104 (vp::sp::F0) w6 q vp sp (zki alg size mK k (n+1)) (y5 (zki alg size mK k (n+1))) np (.pointer none) from
    HV.znr.to (Chg.rA ho6) (HV.znr.cells.pR ho6 HV.znr.ne) hb6 (HOK.znr (n+1) hlt) rfl rfl)
   clear hb6 ho6 hc4 d0
   go_wp2
   go_roundw
   case rel=>exact ⟨n+1,by omega,by go_num,HV6,HC⟩
   case measure=>simp [intOf];omega
  ·obtain rfl:n=mK:=by omega
   go_wp2
   go_ret2
   rw [HFV.znr]
   exact ⟨vp,sp,np,rfl,HV.znr,HTB.znr.at (HC.znr.up (by simp)),hvp,hsp,HC.znr.bel HBE.znr HBE.znr.size hvp hsp⟩
end Go.Proofs.YtjaioajjfiaheaaGreatDoor

/-
  Texts of this claim, one behind the other.
-/
import Derived.Test.YtamdifhibogdiaaGreatDoorX4
import Derived.Test.YtamdifhibogdiaaGreatDoorX1
import Derived.Deep.AppendLies
import Derived.Laws.OwnMore
import Derived.Lib.Hide
set_option linter.unusedVariables false
set_option linter.unusedSimpArgs false
set_option maxHeartbeats 16000000
set_option maxRecDepth 100000
open Array renaming toList_inj→lG,toList_map→lH
open List renaming append_nil→bC,drop_append→bK,drop_eq_nil_of_le→Yx,flatten_cons→uF,getElem?_eq_none→qc,getElem?_map→uV,length_append→q8,length_cons→uh,length_drop→XQ,length_map→yf,length_take→Ku,mem_cons_of_mem→ui,mem_of_getElem?→xU,nil_append→uo,range→uf,take_append→gz,take_of_length_le→Y2,take_zero→cO,zipIdx_cons→lS
open Nat renaming add_mul→uZ,add_sub_cancel→fV,add_zero→gG,le_refl→xc,lt_or_ge→bg,min_eq_left→cz,mul_add→mF,one_mul→dO,zero_add→bH,zero_mul→dQ
namespace Go.Proofs.YtamdifhibogdiaaGreatDoor
open RowKit Mem Ops Cells Oct Gf Trn
attribute [local irreducible] zE zN zO zM
theorem _root_.Go.Cells.St.tab {w0 w:World} {base:Nat} {L:List (Nat×List Value×TypeId)} {q p:Nat} (h:St w0 base w L) (i j:Nat) (hi:L[i]? = some (p,Gf.boxes.map B,165)) (hj:L[j]? = some (q,.pointer (some ⟨p,0,none⟩)::(entries Gf.boxes).map W,159)):Tab w q p:=⟨h.get i hi,h.get j hj⟩
theorem zea (q p:Nat) (b key:List UInt8) (w:World) (ht:Tab w q p) (hlb:b.length=16) (hlk:key.length=16) :
  Calls Tryz.prog 310 #[.pointer (some ⟨q,0,none⟩),.agg (b.map B).toArray,.agg (key.map B).toArray] w fun e w'=>e=.returned (.agg ((vd b key).map B).toArray)∧Below w.heap.size w w':=by
 have HLB:=znq hlb
 have HLK:=znq hlk
 have HS:=znq (((St.start w).add ht.tab).add ht.boxes)
 have hlq:=ht.tab.lt
 have hlp:=ht.boxes.lt
 have zaT:=zB b key
 have HDEF:=znq (show vd b key=qg ((uf 16).map (xT (both b key))) from rfl)
 clear ht hlb hlk
 go_enter Tryz.func310,Tryz.ntmps310
 go_wp2_with (refine zh 59 _ (b.map B) _ rfl rfl rfl rfl ?_)
 intro w1 hb hbel;have HS:=znq (HS.znr.push hb hbel);have hlt1:=hb.lt;clear hb hbel
 go_wp2_with (refine zh 59 _ (key.map B) _ rfl rfl rfl rfl ?_)
 intro w2 hb hbel;have HS:=znq (HS.znr.push hb hbel);have hlt2:=hb.lt;clear hb hbel
 go_wp2_with (refine ze 59 ((zf 16).map B) _ rfl rfl zj rfl ?_)
 intro w3 hb hbel;have HS:=znq (HS.znr.push hb hbel);have hlt3:=hb.lt;clear hb hbel
 go_wp2_with (refine ze 59 ((zf 16).map B) _ rfl rfl zj rfl ?_)
 intro w4 hb hbel;have HS:=znq (HS.znr.push hb hbel);have zaE:=hb.lt;clear hb hbel
 generalize hbb:w.heap.size=bb at *
 generalize w1.heap.size=bk at *
 generalize w2.heap.size=br at *
 generalize w3.heap.size=bo at *
 have HBB:=znq hbb
 clear hbb
 go_wp2_with (first | (refine (HS.znr.get 3 rfl).mP rfl rfl rfl zc (by rw [yf];exact HLB.znr) ?_) | (refine (HS.znr.get 2 rfl).mP rfl rfl rfl zc (by rw [yf];exact HLK.znr) ?_))
 refine (WQ b key _ HLB.znr HLK.znr).mono ?_
 rintro e w5 ⟨rfl,hbel⟩
 have HS:=znq (HS.znr.later hbel)
 clear hbel
 go_wp2_with (refine (HS.znr.get 3 rfl).mM rfl rfl rfl rfl zc (by rw [yf];exact HLB.znr) (by rw [yf];exact zaT) (zg _) ?_)
 intro w6 hb ho
 have HS:=znq (HS.znr.change 3 hb ho (by omega) (by simp;omega))
 clear hb ho
 go_wp2
 generalize hbx:both b key=bx at *
 have HBX:=znq hbx
 clear hbx
 go_loopw [18] (fun c wr=>∃ (k:Nat) (l:List UInt8),k≤4∧c=.int .i64 k∧yg (xT bx) 16 (4*k) l∧St w bb wr [(bo,l.map B,59),(br,(zf 16).map B,59),(bk,key.map B,59),(bb,bx.map B,59),(p,Gf.boxes.map B,165),(q,.pointer (some ⟨p,0,none⟩)::(entries Gf.boxes).map W,159)]) (fun c _=>4 - (intOf c).toNat)
 case atStart=>exact ⟨0,zf 16,by omega,rfl,yg.zero (zd _),HS.znr⟩
 case round =>
  clear HS
  obtain ⟨k,l,hk,rfl,hF,hs⟩:=hrel
  have HF:=znq hF
  have HS:=znq hs
  clear hF hs
  by_cases hlt:k < 4
  ·have hd:decide ((k:Int) < 4)=true:=by simp;omega
   go_wp2
   go_loopw [9,21] (fun n c ws=>∃ r:Nat,r≤4∧c=.int .i64 r∧n=W (qh bx k r)∧St w bb ws [(bo,l.map B,59),(br,(zf 16).map B,59),(bk,key.map B,59),(bb,bx.map B,59),(p,Gf.boxes.map B,165),(q,.pointer (some ⟨p,0,none⟩)::(entries Gf.boxes).map W,159)]) (fun _ c _=>4 - (intOf c).toNat)
   case atStart=>exact ⟨0,by omega,rfl,rfl,HS.znr⟩
   case round =>
    obtain ⟨r,hr,rfl,rfl,hs2⟩:=hrel
    by_cases hlt2:r < 4
    ·have hc1:=fun (x:zG wr.drew)=>((hs2.drew.later x.later).get 3 rfl).cell _ _ (zU (q4 (b:=bx) (i:=r+4*k) (by rw [zaT];omega)))
     have hc2:=fun (x:zG wr.drew)=>((hs2.drew.later x.later).tab 4 5 rfl rfl).zjK r (at8 bx (r+4*k)) hlt2
     have h8:=lt8 (at8 bx (r+4*k))
     have HS2:=znq hs2
     clear hs2
     go_wp2_with fail
     refine zn [0,1,2,3,4,5,6,7,8,9,10,11,12,13,14,15] (by kernel_rfl) (by kernel_rfl) ?_
     rintro w6 rfl
     refine mqR ?_
     clear hc1 hc2 h8
     refine zo ?_
     go_wp2
     go_roundw
     case rel=>exact ⟨r+1,by omega,rfl,rfl,HS2.znr.drew⟩
     case measure=>simp [intOf];omega
    ·obtain rfl:r=4:=by omega
     have HS:=znq hs2
     clear hs2
     go_wp2_with fail
     refine (Zy _ _).mono ?_
     rintro e w8 ⟨rfl,nG⟩
     have HS:=znq (HS.znr.later nG)
     clear nG
     go_wp2_with (refine ze 161 ((zf 4).map B) _ rfl rfl Xq rfl ?_)
     intro w9 hb9 nM
     have hol:=HS.znr.ne _ (xU (i:=0) rfl)
     have hkl:=HS.znr.ne _ (xU (i:=2) rfl)
     simp only at hol hkl
     have HS:=znq (HS.znr.push hb9 nM)
     clear hb9 nM
     generalize w8.heap.size=bw at *
     go_wp2_with (refine (HS.znr.get 0 rfl).mM rfl rfl rfl (cs:=(nz (qh bx k 4)).map B) rfl kL (by simp [zd]) (by simp [yF]) (zg _) ?_)
     intro w10 sD rH
     have HS:=znq (HS.znr.change 0 sD rH (by omega) (by simp;omega))
     clear sD rH
     have hsl:=fun (w':World)=>yY (P:=Tryz.prog) w' 59 5 16 Tryz.underlying59 zl bo 0 (4*k) (4*(k:Int)) rfl (by omega)
     rw [bH] at hsl
     go_wp2_with fail
     refine zn [0,1,2,3,4] (by kernel_rfl) (by kernel_rfl) ?_
     rintro w11 rfl
     refine mqR ?_
     refine zp rfl rfl (by rfl) (fun K hK=>?_)
     refine (HS.znr.drew.get 1 rfl).rC (4*k) ((nz (qh bx k 4)).map B) rfl rfl rfl Tryz.underlying22 zl (fun _=>rfl) (HS.znr.drew.get 0 rfl).lies (by rw [yf,yF];exact (cz (by omega)).symm) (by rw [yf,yf,yF,HF.znr.1];omega) (zg _) (fun w12 pY sJ=>hK _ _ ?_)
     clear hK K hsl
     rw [xV] at pY
     have zcY:=HF.znr.splice (m:=4) (cs:=nz (qh bx k 4)) (by omega) (yF _) (fun j hj=>WK bx k j hj)
     have HF:=znq (show yg (xT bx) 16 (4*(k+1)) (splice l (4*k) (nz (qh bx k 4))) from zcY)
     have zcN:=HS.znr.drew.change 1 pY sJ (by omega) (by simp;omega)
     have HS:=znq (show St w bb w12 [(bo,(splice l (4*k) (nz (qh bx k 4))).map B,59),(br,(zf 16).map B,59),(bk,key.map B,59),(bb,bx.map B,59),(p,Gf.boxes.map B,165),(q,.pointer (some ⟨p,0,none⟩)::(entries Gf.boxes).map W,159)] from ⟨zcN.nW,zcN.bel,fun e he=>zcN.all e (ui _ he)⟩)
     clear pY sJ zcY zcN
     go_simp
     refine zo ?_
     go_wp2
     go_roundw
     case rel=>exact ⟨k+1,_,by omega,rfl,HF.znr,HS.znr⟩
     case measure=>simp [intOf];omega
  ·obtain rfl:k=4:=by omega
   have HE:=znq (show l=(uf 16).map (xT bx) from HF.znr.all)
   have zbC:=HF.znr.1
   have zaF:=znq (show (l.map B).length=16 by rw [yf];exact zbC)
   go_wp2_with (refine (HS.znr.get 0 rfl).mP rfl rfl rfl zc zaF.znr ?_)
   refine (K5 q p l _ (HS.znr.tab 4 5 rfl rfl) zbC).mono ?_
   rintro e w6 ⟨rfl,mQ⟩
   have HS:=znq (HS.znr.later mQ)
   clear mQ
   go_wp2_with (refine (HS.znr.get 1 rfl).mM rfl rfl rfl rfl zc (by rw [yf];exact zd 16) (by rw [yf];exact qi _) (zg _) ?_)
   intro w9 hb9 ho9
   have nM:=zk HS.znr.bel ho9 (by omega)
   go_wp2
   refine hb9.result rfl rfl rfl zc (by rw [yf];exact qi _) ⟨by rw [HE.znr,HDEF.znr],?_⟩
   rw [HBB.znr]
   exact nM
theorem zgr (q p:Nat) (b key:List UInt8) (w:World) (ht:Tab w q p) (hlb:b.length=16) (hlk:key.length=16) :
  Calls Tryz.prog 309 #[.pointer (some ⟨q,0,none⟩),.agg (b.map B).toArray,.agg (key.map B).toArray] w fun e w'=>e=.returned (.agg ((jZ b key).map B).toArray)∧Below w.heap.size w w':=by
 have HLB:=znq (show (b.map B).length=16 by rw [yf];exact hlb)
 have HLK:=znq (show (key.map B).length=16 by rw [yf];exact hlk)
 have zdN:=znq hlb
 have HLK2:=znq hlk
 have HS:=znq (((St.start w).add ht.tab).add ht.boxes)
 have hlq:=ht.tab.lt
 have hlp:=ht.boxes.lt
 clear ht hlb hlk
 go_enter Tryz.func309,Tryz.ntmps309
 go_wp2_with (refine zh 59 _ (b.map B) _ rfl rfl rfl rfl ?_)
 intro w1 hb hbel;have HS:=znq (HS.znr.push hb hbel);have hlt1:=hb.lt;clear hb hbel
 go_wp2_with (refine zh 59 _ (key.map B) _ rfl rfl rfl rfl ?_)
 intro w2 hb hbel;have HS:=znq (HS.znr.push hb hbel);have hlt2:=hb.lt;clear hb hbel
 go_wp2_with (refine ze 59 ((zf 16).map B) _ rfl rfl zj rfl ?_)
 intro w3 hb hbel;have HS:=znq (HS.znr.push hb hbel);have hlt3:=hb.lt;clear hb hbel
 generalize hbb:w.heap.size=bb at *
 generalize w1.heap.size=bk at *
 generalize w2.heap.size=br at *
 have HBB:=znq hbb
 clear hbb
 go_wp2_with (first | (refine (HS.znr.get 2 rfl).mP rfl rfl rfl zc HLB.znr ?_) | (refine (HS.znr.get 1 rfl).mP rfl rfl rfl zc HLK.znr ?_))
 refine (WQ b key _ zdN.znr HLK2.znr).mono ?_
 rintro e w5 ⟨rfl,hbel⟩
 have HS:=znq (HS.znr.later hbel)
 clear hbel
 go_wp2_with fail
 refine (K5 q p (both b key) _ (HS.znr.tab 3 4 rfl rfl) (zB _ _)).mono ?_
 rintro e w6 ⟨rfl,hbel⟩
 have HS:=znq (HS.znr.later hbel)
 clear hbel
 go_wp2_with (refine (HS.znr.get 0 rfl).mM rfl rfl rfl rfl zc (by rw [yf];exact zd 16) (by rw [yf];exact qi _) (zg _) ?_)
 intro w9 hb9 ho9
 have nM:=zk HS.znr.bel ho9 (by omega)
 go_wp2
 refine hb9.result rfl rfl rfl zc (by rw [yf];exact qi _) ⟨rfl,?_⟩
 rw [HBB.znr]
 exact nM
theorem zl6 (q p:Nat) (a:UInt8) (w:World) (ht:Tab w q p) :
  Calls Tryz.prog 65 #[.pointer (some ⟨q,0,none⟩),B a] w fun e w'=>e=.returned (B (at8 Gf.boxes a.toNat))∧w=w':=by
 have hc:=ht.zdM
 have HT:=znq ht
 clear ht
 go_enter Tryz.func65,Tryz.ntmps65
 go_wp2_with fail
 refine (zjc p Gf.boxes a _ kX HT.znr.boxes).mono ?_
 rintro e w1 ⟨rfl,rfl⟩
 go_wp2
 go_ret
 exact ⟨rfl,by trivial⟩
structure Yg (w:World) (ao:Option Addr) (ks:List (List UInt8)):Prop where
 each:∀ k∈ks,k.length=16
 lies:zr w ao ((ks.flatten).map B)
theorem ZC (n:Nat):∀ (ks:List (List UInt8)) (i j:Nat) (k:List UInt8),(∀ k∈ks,k.length=n)→ks[i]? = some k→j < n→ks.flatten[n*i+j]? = k[j]?
 | [],_,_,_,_,h,_=>by simp at h
 | x::r,0,j,k,he,h,hj=>by
  simp at h;subst h
  rw [uF,Nat.mul_zero,bH,List.getElem?_append_left (by rw [he x (by simp)];exact hj)]
 | x::r,i+1,j,k,he,h,hj=>by
  rw [List.getElem?_cons_succ] at h
  rw [uF,List.getElem?_append_right (by rw [he x (by simp),mF];omega),he x (by simp),show n*(i+1)+j - n=n*i+j by rw [mF];omega]
  exact ZC n r i j k (fun k hk=>he k (ui _ hk)) h hj
theorem Yg.range {w:World} {ao:Option Addr} {ks:List (List UInt8)} (h:Yg w ao ks) {i:Nat} {k:List UInt8} (hi:ks[i]? = some k):∃ b off,ao=some ⟨b,off,none⟩∧b < w.heap.size∧w.rangeAt b (off+i*16) (k.map B):=by
 have hk:=h.each k (xU hi)
 have hat:∀ j v,(k.map B)[j]? = some v→((ks.flatten).map B)[16*i+j]? = some v:=fun j v hv=>by
  rw [uV] at hv ⊢
  have hj:j < 16:=by
   rcases bg j 16 with h | h
   ·exact h
   ·rw [qc (by omega)] at hv;cases hv
  rw [ZC 16 ks i j k h.each hi hj]
  exact hv
 have h0:(k.map B)[0]? = some (B (at8 k 0)):=zU (q4 (by omega))
 obtain ⟨b,off,rfl,hc⟩:=h.lies _ _ (hat 0 _ h0)
 refine ⟨b,off,rfl,block_lt_of_cell hc,fun j v hv=>?_⟩
 obtain ⟨b',off',e,hc'⟩:=h.lies _ _ (hat j v hv)
 cases e
 rw [show off+i*16+j=off+(16*i+j) by omega]
 exact hc'
theorem QI (q p:Nat) (b:List UInt8) (ao:Option Addr) (n cap:Nat) (ks:List (List UInt8)) (w:World) (ht:Tab w q p) (hlb:b.length=16) (hn:ks.length=n) (hnb:n≤1099511627776) (hk:Yg w ao ks) :
  Calls Tryz.prog 201 #[.pointer (some ⟨q,0,none⟩),.agg (b.map B).toArray,.slice ao n cap] w fun e w'=>e=.returned (.agg ((rounds b ks).map B).toArray)∧Below w.heap.size w w':=by
 have HLB:=znq (show (b.map B).length=16 by rw [yf];exact hlb)
 have zdN:=znq hlb
 have HN:=znq hn
 have HK:=znq hk
 have HS:=znq (((St.start w).add ht.tab).add ht.boxes)
 have hlq:=ht.tab.lt
 have hlp:=ht.boxes.lt
 clear ht hlb hn hk
 go_enter Tryz.func201,Tryz.ntmps201
 go_wp2_with (refine zh 59 _ (b.map B) _ rfl rfl rfl rfl ?_)
 intro w1 hb hbel;have HS:=znq (HS.znr.push hb hbel);have hlt1:=hb.lt;clear hb hbel
 go_wp2_with (refine ze 59 ((zf 16).map B) _ rfl rfl zj rfl ?_)
 intro w2 hb hbel;have HS:=znq (HS.znr.push hb hbel);have hlt2:=hb.lt;clear hb hbel
 generalize hbb:w.heap.size=bb at *
 generalize w1.heap.size=br at *
 have HBB:=znq hbb
 clear hbb
 go_wp2
 go_loopw [14] (fun c wr=>∃ (i:Nat) (x:List UInt8),i≤n∧c=.int .i64 i∧x.length=16∧rounds x (ks.drop i)=rounds b ks∧St w bb wr [(br,(zf 16).map B,59),(bb,x.map B,59),(p,Gf.boxes.map B,165),(q,.pointer (some ⟨p,0,none⟩)::(entries Gf.boxes).map W,159)]) (fun c _=>n - (intOf c).toNat)
 case atStart=>exact ⟨0,b,by omega,rfl,zdN.znr,rfl,HS.znr⟩
 case round =>
  clear HS
  obtain ⟨i,x,hi,rfl,hx,he,hs⟩:=hrel
  have HX:=znq hx
  have HX2:=znq (show (x.map B).length=16 by rw [yf];exact hx)
  have HE:=znq he
  have HS:=znq hs
  clear hx he hs
  by_cases hlt:i < n
  ·obtain ⟨k,hki⟩:∃ k,ks[i]? = some k:=⟨ks[i]'(by rw [HN.znr];exact hlt),by simp [HN.znr,hlt]⟩
   have sQ:=HK.znr.each k (xU hki)
   have HKL:=znq (show (k.map B).length=16 by rw [yf];exact sQ)
   obtain ⟨kb,nI,rfl,hkb,hrg⟩:=HK.znr.range hki
   have hstep:rounds x (ks.drop i)=rounds (round x k) (ks.drop (i+1)):=by
    rw [List.drop_eq_getElem_cons (by rw [HN.znr];exact hlt)]
    rw [show ks[i]'(by rw [HN.znr];exact hlt)=k by simpa [HN.znr,hlt] using hki]
    rfl
   have HE:=znq (hstep.symm.trans HE.znr)
   have HRG:=znq (ke hrg HS.znr.bel (by rw [← HBB.znr];exact hkb))
   clear hstep hrg hki
   go_wp2_with (first | (refine wpList_load_mid rfl 59 (.tmp 16) rfl kb (nI+i*16) rfl _ _ HRG.znr Tryz.underlying59 rfl (by rw [HKL.znr];exact zc.2) ?_) | (refine ze 59 ((zf 16).map B) _ rfl rfl zj rfl ?_))
   intro w3 hb3 mY
   have hbl:=HS.znr.ne _ (xU (i:=0) rfl)
   simp only at hbl
   have HS:=znq (HS.znr.push hb3 mY)
   clear hb3 mY
   generalize wr.heap.size=bw at *
   go_wp2_with (refine (HS.znr.get 0 rfl).mM rfl rfl rfl rfl zc (by rw [yf];exact zd 16) HKL.znr (zg _) ?_)
   intro w4 hb4 ho4
   have HS:=znq (HS.znr.change 0 hb4 ho4 (by omega) (by simp;omega))
   clear hb4 ho4
   go_wp2_with (first | (refine (HS.znr.get 2 rfl).mP rfl rfl rfl zc HX2.znr ?_) | (refine (HS.znr.get 0 rfl).mP rfl rfl rfl zc HKL.znr ?_))
   refine (zje q p x k _ (HS.znr.tab 3 4 rfl rfl) HX.znr sQ).mono ?_
   rintro e w5 ⟨rfl,mX⟩
   have HS:=znq (HS.znr.later mX)
   clear mX
   have HRL:=znq (show ((round x k).map B).length=16 by rw [yf];exact ve _ _)
   go_wp2_with (refine (HS.znr.get 2 rfl).mM rfl rfl rfl rfl zc HX2.znr HRL.znr (zg _) ?_)
   intro w6 hb6 ho6
   have hs6:=HS.znr.change 2 hb6 ho6 (by omega) (by simp;omega)
   have HS:=znq (show St w bb w6 [(br,(zf 16).map B,59),(bb,(round x k).map B,59),(p,Gf.boxes.map B,165),(q,.pointer (some ⟨p,0,none⟩)::(entries Gf.boxes).map W,159)] from ⟨hs6.nW,hs6.bel,fun e he=>hs6.all e (ui _ he)⟩)
   clear hb6 ho6 hs6
   go_wp2
   go_roundw
   case rel=>exact ⟨i+1,_,by omega,rfl,ve _ _,HE.znr,HS.znr⟩
   case measure=>simp [intOf];omega
  ·obtain rfl:i=n:=by omega
   have hfin:x=rounds b ks:=by
    have:=HE.znr
    rw [Yx (by rw [HN.znr];exact xc _)] at this
    exact this
   have zbN:=znq hfin
   clear hfin
   go_wp2_with (first | (refine (HS.znr.get 1 rfl).mP rfl rfl rfl zc HX2.znr ?_) | (refine (HS.znr.get 0 rfl).mM rfl rfl rfl rfl zc (by rw [yf];exact zd 16) HX2.znr (zg _) ?_))
   intro w9 hb9 ho9
   have nM:=zk HS.znr.bel ho9 (by omega)
   go_wp2
   refine hb9.result rfl rfl rfl zc HX2.znr ⟨by rw [zbN.znr],?_⟩
   rw [HBB.znr]
   exact nM
end Go.Proofs.YtamdifhibogdiaaGreatDoor
namespace Go.Proofs.YtamdifhibogdiaaGreatDoor
open RowKit Mem Ops Cells Oct Gf Trn Aes
attribute [local irreducible] zE zN zO zM
theorem yA:Row Tryz.prog 294 4:=⟨by kernel_rfl,by kernel_rfl⟩
theorem jD:(Tryz.prog.info? 294).map (·.zero)=some (some (.agg ((zf 4).map B).toArray)):=by kernel_rfl
theorem K6:(Tryz.prog.underlying 5).map (·.isRow)=some false:=by kernel_rfl
theorem zjg (w:World):Calls Tryz.prog 194 #[.int .i64 32] w fun e w'=>e=.returned (.tuple #[.int .i64 8,.bool true,.int .i64 0])∧w=w':=by
 go_enter Tryz.func194,Tryz.ntmps194
 go_wp2
 go_ret3
 exact ⟨rfl,rfl⟩
theorem zjh (w:World):Calls Tryz.prog 194 #[.int .i64 16] w fun e w'=>e=.returned (.tuple #[.int .i64 4,.bool false,.int .i64 0])∧w=w':=by
 go_enter Tryz.func194,Tryz.ntmps194
 go_wp2
 go_ret3
 exact ⟨rfl,rfl⟩
theorem zji (w:World):Calls Tryz.prog 194 #[.int .i64 24] w fun e w'=>e=.returned (.tuple #[.int .i64 6,.bool false,.int .i64 0])∧w=w':=by
 go_enter Tryz.func194,Tryz.ntmps194
 go_wp2
 go_ret3
 exact ⟨rfl,rfl⟩
theorem zbg (q p:Nat) (x:List UInt8) (w:World) (ht:Tab w q p) (hx:x.length=4) :
  Calls Tryz.prog 197 #[.pointer (some ⟨q,0,none⟩),.agg (x.map B).toArray] w fun e w'=>e=.returned (.agg ((zbJ x).map B).toArray)∧Below w.heap.size w w':=by
 have HX:=znq hx
 have HXL:=znq (show (x.map B).length=4 by rw [yf];exact hx)
 have HS:=znq (((St.start w).add ht.tab).add ht.boxes)
 have hlq:=ht.tab.lt
 have hlp:=ht.boxes.lt
 clear ht hx
 go_enter Tryz.func197,Tryz.ntmps197
 go_wp2_with (refine zh 294 _ (x.map B) _ rfl rfl rfl rfl ?_)
 intro w1 hb hbel;have HS:=znq (HS.znr.push hb hbel);have hlt1:=hb.lt;clear hb hbel
 go_wp2_with (refine ze 294 ((zf 4).map B) _ rfl rfl jD rfl ?_)
 intro w2 hb hbel;have HS:=znq (HS.znr.push hb hbel);have hlt2:=hb.lt;clear hb hbel
 generalize hbb:w.heap.size=bb at *
 generalize w1.heap.size=br at *
 have HBB:=znq hbb
 clear hbb
 go_wp2_with (refine (HS.znr.get 1 rfl).mP rfl rfl rfl yA HXL.znr ?_)
 go_loopw [8] (fun c wr=>∃ (i:Nat) (l:List UInt8),i≤4∧c=.int .i64 i∧yg (fun i=>at8 Gf.boxes (at8 x i).toNat) 4 i l∧St w bb wr [(br,(zf 4).map B,294),(bb,l.map B,294),(p,Gf.boxes.map B,165),(q,.pointer (some ⟨p,0,none⟩)::(entries Gf.boxes).map W,159)]) (fun c _=>4 - (intOf c).toNat)
 case atStart=>exact ⟨0,x,by omega,rfl,yg.zero HX.znr,HS.znr⟩
 case round =>
  clear HS
  obtain ⟨i,l,hi,rfl,hF,hs⟩:=hrel
  have HF:=znq hF
  have HS:=znq hs
  clear hF hs
  by_cases hlt:i < 4
  ·have hix:=fun (w':World)=>qF (P:=Tryz.prog) w' 294 5 4 (x.map B).toArray .i64 i (B (at8 x i)) Tryz.underlying294 K6 zl (by rw [List.getElem?_toArray];exact zU (q4 (by rw [HX.znr];exact hlt))) hlt
   obtain ⟨y,hy⟩:=HF.znr.at hlt
   clear hy
   go_wp2_with fail
   refine (zl6 q p (at8 x i) _ (HS.znr.tab 2 3 rfl rfl)).mono ?_
   rintro e w5 ⟨rfl,rfl⟩
   obtain ⟨y,hy⟩:=HF.znr.at hlt
   have hc:=(HS.znr.get 1 rfl).cell i _ (zU hy)
   have hf:=(HS.znr.get 1 rfl).free i
   clear hy hix
   go_wp2
   have hb5:=(HS.znr.get 1 rfl).set i (B (at8 Gf.boxes (at8 x i).toNat))
   rw [ym] at hb5
   have hs5:=HS.znr.change 1 hb5 (Only.setCell _ ⟨bb,i,none⟩ _) (by omega) (by simp;omega)
   go_roundw
   case rel=>exact ⟨i+1,_,by omega,rfl,HF.znr.step hlt,hs5⟩
   case measure=>simp [intOf];omega
  ·obtain rfl:i=4:=by omega
   have HE:=znq (show l=zbJ x from HF.znr.all)
   have HL:=znq (show (l.map B).length=4 by rw [yf];exact HF.znr.1)
   go_wp2_with (first | (refine (HS.znr.get 1 rfl).mP rfl rfl rfl yA HL.znr ?_) | (refine (HS.znr.get 0 rfl).mM rfl rfl rfl rfl yA (by rw [yf];exact zd 4) HL.znr (zg _) ?_))
   intro w9 hb9 ho9
   have nM:=zk HS.znr.bel ho9 (by omega)
   go_wp2
   refine hb9.result rfl rfl rfl yA HL.znr ⟨by rw [HE.znr],?_⟩
   rw [HBB.znr]
   exact nM
theorem zjj (a b:List UInt8) (w:World) (ha:a.length=4) (hb:b.length=4):Calls Tryz.prog 198 #[.agg (a.map B).toArray,.agg (b.map B).toArray] w fun e w'=>e=.returned (.agg ((nY a b).map B).toArray)∧Below w.heap.size w w':=by
 have HLA:=znq ha
 have HLB:=znq hb
 have HS:=znq (St.start w)
 clear ha hb
 go_enter Tryz.func198,Tryz.ntmps198
 go_wp2_with (refine zh 294 _ (a.map B) _ rfl rfl rfl rfl ?_)
 intro w1 hb hbel;have HS:=znq (HS.znr.push hb hbel);have hlt1:=hb.lt;clear hb hbel
 go_wp2_with (refine zh 294 _ (b.map B) _ rfl rfl rfl rfl ?_)
 intro w2 hb hbel;have HS:=znq (HS.znr.push hb hbel);have hlt2:=hb.lt;clear hb hbel
 go_wp2_with (refine ze 294 ((zf 4).map B) _ rfl rfl jD rfl ?_)
 intro w3 hb hbel;have HS:=znq (HS.znr.push hb hbel);have hlt3:=hb.lt;clear hb hbel
 generalize hbb:w.heap.size=bb at *
 generalize w1.heap.size=bk at *
 generalize w2.heap.size=br at *
 have HBB:=znq hbb
 clear hbb
 go_wp2
 go_loopw [6] (fun c wr=>∃ (j:Nat) (l:List UInt8),j≤4∧c=.int .i64 j∧l.length=4∧(∀ i,i < j→l[i]? = some (ya (at8 a i) (at8 b i)))∧(∀ i,j≤i→l[i]? = a[i]?)∧St w bb wr [(br,(zf 4).map B,294),(bk,b.map B,294),(bb,l.map B,294)]) (fun c _=>4 - (intOf c).toNat)
 case atStart=>exact ⟨0,a,by omega,rfl,HLA.znr,fun i hi=>absurd hi (by omega),fun i _=>rfl,HS.znr⟩
 case round =>
  clear HS
  obtain ⟨j,l,hj,rfl,hll,hl1,hl2,hs⟩:=hrel
  have HLL:=znq hll
  have HL1:=znq hl1
  have HS:=znq hs
  by_cases hlt:j < 4
  ·have hx:l[j]? = some (at8 a j):=by rw [hl2 j (xc _)];exact q4 (by rw [HLA.znr];omega)
   have hc1:=fun (x:zG wr.drew)=>((hs.drew.later x.later).get 2 rfl).cell j _ (zU hx)
   have hc2:=fun (x:zG wr.drew)=>((hs.drew.later x.later).get 1 rfl).cell j _ (zU (q4 (b:=b) (i:=j) (by rw [HLB.znr];omega)))
   have HL2:=znq hl2
   clear hll hl1 hl2 hs hx
   go_wp2_with fail
   refine zn [0,1,2,3,4,5,6,7,8] (by kernel_rfl) (by kernel_rfl) ?_
   rintro w4 rfl
   refine mqR ?_
   clear hc1 hc2
   refine zp rfl rfl (by rfl) (fun K hK=>?_)
   refine (HS.znr.drew.get 2 rfl).nO (v:=B (ya (at8 a j) (at8 b j))) rfl rfl rfl zl rfl rfl (by rw [yf,HLL.znr];omega) (fun w5 hb5 ho5=>hK _ _ ?_)
   clear hK K
   rw [ym] at hb5
   have HS5:=znq (HS.znr.drew.change 2 hb5 ho5 (by omega) (by simp;omega))
   clear ho5 hb5
   go_simp
   refine zo ?_
   go_wp2
   go_roundw
   case rel =>
    refine ⟨j+1,_,by omega,rfl,by simpa using HLL.znr,fun i hi=>?_,fun i hi=>?_,HS5.znr⟩
    ·rw [List.getElem?_set]
     by_cases e:j=i
     ·subst e;simp [HLL.znr,hlt]
     ·rw [if_neg e];exact HL1.znr i (by omega)
    ·rw [List.getElem?_set_ne (by omega)]
     exact HL2.znr i (by omega)
   case measure=>simp [intOf];omega
  ·obtain rfl:j=4:=by omega
   have HE:=znq (show l=nY a b from yg.all (f:=fun i=>ya (at8 a i) (at8 b i)) ⟨hll,hl1⟩)
   have HL:=znq (show (l.map B).length=4 by rw [yf];exact hll)
   clear hll hl1 hl2 hs
   go_wp2_with (first | (refine (HS.znr.get 2 rfl).mP rfl rfl rfl yA HL.znr ?_) | (refine (HS.znr.get 0 rfl).mM rfl rfl rfl rfl yA (by rw [yf];exact zd 4) HL.znr (zg _) ?_))
   intro w6 hb6 ho6
   have mQ:=zk HS.znr.bel ho6 (by omega)
   go_wp2
   refine hb6.result rfl rfl rfl yA HL.znr ⟨by rw [HE.znr],?_⟩
   rw [HBB.znr]
   exact mQ
end Go.Proofs.YtamdifhibogdiaaGreatDoor
namespace Go.Proofs.YtamdifhibogdiaaGreatDoor
open RowKit Mem Ops Cells Oct Gf Trn Aes
attribute [local irreducible] zE zN zO zM
theorem zbh (a b:List UInt8) (w:World) (ha:a.length=16) (hb:b.length=16):Calls Tryz.prog 202 #[.agg (a.map B).toArray,.agg (b.map B).toArray] w fun e w'=>e=.returned (.agg ((both a b).map B).toArray)∧Below w.heap.size w w':=by
 have HLA:=znq ha
 have HLB:=znq hb
 have HS:=znq (St.start w)
 have HBX:=znq (QD a b ha hb)
 clear ha hb
 go_enter Tryz.func202,Tryz.ntmps202
 go_wp2_with (refine zh 59 _ (a.map B) _ rfl rfl rfl rfl ?_)
 intro w1 hb hbel;have HS:=znq (HS.znr.push hb hbel);have hlt1:=hb.lt;clear hb hbel
 go_wp2_with (refine zh 59 _ (b.map B) _ rfl rfl rfl rfl ?_)
 intro w2 hb hbel;have HS:=znq (HS.znr.push hb hbel);have hlt2:=hb.lt;clear hb hbel
 go_wp2_with (refine ze 59 ((zf 16).map B) _ rfl rfl zj rfl ?_)
 intro w3 hb hbel;have HS:=znq (HS.znr.push hb hbel);have hlt3:=hb.lt;clear hb hbel
 generalize hbb:w.heap.size=bb at *
 generalize w1.heap.size=bk at *
 generalize w2.heap.size=br at *
 have HBB:=znq hbb
 clear hbb
 go_wp2_with fail
 refine zn [0,1,2,3,4] (by kernel_rfl) (by kernel_rfl) ?_
 rintro w4 rfl
 refine mqR ?_
 refine zi rfl rfl (by rfl) (fun K hK=>?_)
 go_simp
 refine (j1 _ _ 16 16 16 16 a b _ HLA.znr HLB.znr (by omega) (by omega) (HS.znr.drew.get 2 rfl).lies (HS.znr.drew.get 1 rfl).lies).mono ?_
 rintro e w5 ⟨v5,rfl,hown5,mX⟩
 obtain ⟨ao5,cap5,rfl,_,_,hl5⟩:=zw hown5
 have HS:=znq (HS.znr.drew.later mX)
 have HL5:=znq hl5
 clear hown5 hl5
 simp only [id]
 go_simp
 refine hK _ _ mX ?_
 clear hK K mX
 refine zi rfl rfl (by rfl) (fun K hK=>?_)
 go_simp
 refine (yQ ao5 (min 16 16) cap5 (nX a b) _ (by rw [mW,HLA.znr,HLB.znr]) HL5.znr).mono ?_
 rintro e w6 ⟨rfl,mQ⟩
 have HS:=znq (HS.znr.later mQ)
 rw [HBX.znr]
 go_simp
 refine hK _ _ mQ ?_
 clear hK K mQ
 refine zp rfl rfl (by rfl) (fun K hK=>?_)
 refine (HS.znr.get 0 rfl).mZ rfl rfl rfl zc (by rw [yf];exact zd 16) (by rw [yf];exact zB _ _) (zg _) (fun w7 hb7 ho7=>hK _ _ ?_)
 clear hK K
 have ny:=zk HS.znr.bel ho7 (by omega)
 go_simp
 refine zo ?_
 go_wp2
 refine hb7.result rfl rfl rfl zc (by rw [yf];exact zB _ _) ⟨rfl,?_⟩
 rw [HBB.znr]
 exact ny
structure yB (n:Nat) (w:World) (ao:Option Addr) (ks:List (List UInt8)):Prop where
 each:∀ k∈ks,k.length=n
 lies:zr w ao ((ks.flatten).map B)
theorem yB.below {n:Nat} {w w':World} {ao:Option Addr} {ks:List (List UInt8)} (h:yB n w ao ks) (hb:Below w.heap.size w w'):yB n w' ao ks:=⟨h.each,h.lies.below hb⟩
theorem yB.range {n:Nat} {w:World} {ao:Option Addr} {ks:List (List UInt8)} (h:yB n w ao ks) (hn:0 < n) {i:Nat} {k:List UInt8} (hi:ks[i]? = some k):∃ b off,ao=some ⟨b,off,none⟩∧b < w.heap.size∧w.rangeAt b (off+i*n) (k.map B):=by
 have hk:=h.each k (xU hi)
 have hat:∀ j v,(k.map B)[j]? = some v→((ks.flatten).map B)[n*i+j]? = some v:=fun j v hv=>by
  rw [uV] at hv ⊢
  have hj:j < n:=by
   rcases bg j n with h | h
   ·exact h
   ·rw [qc (by omega)] at hv;cases hv
  rw [ZC n ks i j k h.each hi hj]
  exact hv
 have h0:(k.map B)[0]? = some (B (at8 k 0)):=zU (q4 (by omega))
 obtain ⟨b,off,rfl,hc⟩:=h.lies _ _ (hat 0 _ h0)
 refine ⟨b,off,rfl,block_lt_of_cell hc,fun j v hv=>?_⟩
 obtain ⟨b',off',e,hc'⟩:=h.lies _ _ (hat j v hv)
 cases e
 rw [show off+i*n+j=off+(n*i+j) by rw [Nat.mul_comm i n];omega]
 exact hc'
theorem zgs (ao:Option Addr) (cap:Nat) (ks:List (List UInt8)) (w:World) (hn:ks.length=4) (hk:yB 4 w ao ks) :
  Calls Tryz.prog 199 #[.slice ao 4 cap] w fun e w'=>e=.returned (.agg ((ks.flatten).map B).toArray)∧Below w.heap.size w w':=by
 have hfl:ks.flatten.length=16:=by
  match ks,hn with
  | [a,b,c,d],_=>simp [hk.each a (by simp),hk.each b (by simp),hk.each c (by simp),hk.each d (by simp)]
 have HFL:=znq hfl
 have HN:=znq hn
 have HK:=znq hk
 have HS:=znq (St.start w)
 clear hn hk hfl
 go_enter Tryz.func199,Tryz.ntmps199
 go_wp2_with (refine ze 59 ((zf 16).map B) _ rfl rfl zj rfl ?_)
 intro w1 hb hbel;have HS:=znq (HS.znr.push hb hbel);have hlt1:=hb.lt;clear hb hbel
 go_wp2_with (refine ze 59 ((zf 16).map B) _ rfl rfl zj rfl ?_)
 intro w2 hb hbel;have HS:=znq (HS.znr.push hb hbel);have hlt2:=hb.lt;clear hb hbel
 generalize hbb:w.heap.size=br at *
 generalize w1.heap.size=bo at *
 have HBB:=znq hbb
 clear hbb
 go_wp2
 go_loopw [8] (fun c wr=>∃ (i:Nat) (l:List UInt8),i≤4∧c=.int .i64 i∧yg (fun j=>at8 ks.flatten j) 16 (4*i) l∧St w br wr [(bo,l.map B,59),(br,(zf 16).map B,59)]) (fun c _=>4 - (intOf c).toNat)
 case atStart=>exact ⟨0,zf 16,by omega,rfl,yg.zero (zd _),HS.znr⟩
 case round =>
  clear HS
  obtain ⟨i,l,hi,rfl,hF,hs⟩:=hrel
  have HF:=znq hF
  have HS:=znq hs
  clear hF hs
  by_cases hlt:i < 4
  ·obtain ⟨k,hki⟩:∃ k,ks[i]? = some k:=⟨ks[i]'(by rw [HN.znr];exact hlt),by simp [HN.znr,hlt]⟩
   have hk4:=HK.znr.each k (xU hki)
   have HKL:=znq (show (k.map B).length=4 by rw [yf];exact hk4)
   obtain ⟨kb,nI,rfl,hkb,hrg⟩:=HK.znr.range (by omega) hki
   have HRG:=znq (ke hrg HS.znr.bel (by rw [← HBB.znr];exact hkb))
   have HCS:=znq (show ∀ j,j < 4→k[j]? = some (at8 ks.flatten (4*i+j)) from fun j hj=>by
    rw [← ZC 4 ks i j k HK.znr.each hki hj]
    exact q4 (by rw [HFL.znr];omega))
   clear hrg hki
   go_wp2_with (first | (refine wpList_load_mid rfl 294 (.tmp 11) rfl kb (nI+i*4) rfl _ _ HRG.znr Tryz.underlying294 rfl (by rw [HKL.znr];exact yA.2) ?_) | (refine ze 294 ((zf 4).map B) _ rfl rfl jD rfl ?_))
   intro w3 hb3 mY
   have hbl:=HS.znr.ne _ (xU (i:=0) rfl)
   simp only at hbl
   have HS:=znq (HS.znr.push hb3 mY)
   clear hb3 mY
   generalize wr.heap.size=bw at *
   go_wp2_with (refine (HS.znr.get 0 rfl).mM rfl rfl rfl rfl yA (by rw [yf];exact zd 4) HKL.znr (zg _) ?_)
   intro w4 hb4 ho4
   have HS:=znq (HS.znr.change 0 hb4 ho4 (by omega) (by simp;omega))
   clear hb4 ho4
   have hsl:=fun (w':World)=>yY (P:=Tryz.prog) w' 59 5 16 Tryz.underlying59 zl bo 0 (4*i) (4*(i:Int)) rfl (by omega)
   rw [bH] at hsl
   go_wp2_with fail
   refine zn [0,1,2,3,4] (by kernel_rfl) (by kernel_rfl) ?_
   rintro w11 rfl
   refine mqR ?_
   refine zp rfl rfl (by rfl) (fun K hK=>?_)
   refine (HS.znr.drew.get 1 rfl).rC (4*i) (k.map B) rfl rfl rfl Tryz.underlying22 zl (fun _=>rfl) (HS.znr.drew.get 0 rfl).lies (by rw [HKL.znr];exact (cz (by omega)).symm) (by rw [yf,yf,hk4,HF.znr.1];omega) (zg _) (fun w12 pY sJ=>hK _ _ ?_)
   clear hK K hsl
   rw [xV] at pY
   have zcY:=HF.znr.splice (m:=4) (cs:=k) (by omega) hk4 HCS.znr
   have HF:=znq (show yg (fun j=>at8 ks.flatten j) 16 (4*(i+1)) (splice l (4*i) k) from zcY)
   have zcN:=HS.znr.drew.change 1 pY sJ (by omega) (by simp;omega)
   have HS:=znq (show St w br w12 [(bo,(splice l (4*i) k).map B,59),(br,(zf 16).map B,59)] from ⟨zcN.nW,zcN.bel,fun e he=>zcN.all e (ui _ he)⟩)
   clear pY sJ zcY zcN
   go_simp
   refine zo ?_
   go_wp2
   go_roundw
   case rel=>exact ⟨i+1,_,by omega,rfl,HF.znr,HS.znr⟩
   case measure=>simp [intOf];omega
  ·obtain rfl:i=4:=by omega
   have he:l=ks.flatten:=by
    have hl:=HF.znr.1
    apply List.ext_getElem?
    intro j
    by_cases hj:j < 16
    ·rw [HF.znr.2 j hj];exact (q4 (by rw [HFL.znr];exact hj)).symm
    ·rw [qc (by omega),qc (by rw [HFL.znr];omega)]
   have HE:=znq he
   have HL:=znq (show (l.map B).length=16 by rw [yf];exact HF.znr.1)
   clear he
   go_wp2_with (first | (refine (HS.znr.get 0 rfl).mP rfl rfl rfl zc HL.znr ?_) | (refine (HS.znr.get 1 rfl).mM rfl rfl rfl rfl zc (by rw [yf];exact zd 16) HL.znr (zg _) ?_))
   intro w9 hb9 ho9
   have nM:=zk HS.znr.bel ho9 (by omega)
   go_wp2
   refine hb9.result rfl rfl rfl zc HL.znr ⟨by rw [HE.znr],?_⟩
   rw [HBB.znr]
   exact nM
end Go.Proofs.YtamdifhibogdiaaGreatDoor
namespace Go.Proofs.YtamdifhibogdiaaGreatDoor
open RowKit Mem Ops Cells Oct Gf Trn Aes
attribute [local irreducible] zE zN zO zM
def Zj (ao:Option Addr) (cap lo size:Nat):Option Addr:=if cap=lo then ao else ao.map (·.add (lo*size))
theorem zbi {P:Program} (w:World) (t e:TypeId) (size:Nat) (ht:P.underlying t=some (.slice e)) (hs:(P.info? e).map (·.size)=some size) (ao:Option Addr) (len cap lo hi:Nat) (i j:Int) (hi':i=lo) (hj:j=hi) (h1:lo≤hi) (h2:hi≤cap) :
  (Instr.slice t (.slice ao len cap) (some (.int .i64 i)) (some (.int .i64 j)) none).run P w=.ok (.slice (Zj ao cap lo size) (hi - lo) (cap - lo)) w:=by
 subst hi';subst hj
 cases hq:P.info? e with
 | none=>rw [hq] at hs;cases hs
 | some x =>
  have hx:x.size=size:=by rw [hq] at hs;simpa using hs
  simp [Instr.slice,Instr.sliceBounds,Instr.sliceBound,run_underlying ht,sizeOf,typeInfo,hq,hx,asIntOf,h1,h2,Zj]
theorem XZ (n:Nat):∀ (ks:List (List UInt8)) (lo:Nat),(∀ k∈ks,k.length=n)→(ks.drop lo).flatten=ks.flatten.drop (lo*n)
 | [],lo,_=>by simp
 | x::r,0,_=>by simp
 | x::r,lo+1,h=>by
  have hx:=h x (by simp)
  rw [List.drop_succ_cons,XZ n r lo (fun k hk=>h k (ui _ hk)),uF,bK,hx,show x.drop ((lo+1)*n)=[] from Yx (by rw [hx,uZ];omega),uo,uZ,dO,fV]
theorem X0 (n:Nat):∀ (ks:List (List UInt8)) (m:Nat),(∀ k∈ks,k.length=n)→(ks.take m).flatten=ks.flatten.take (m*n)
 | [],m,_=>by simp
 | x::r,0,_=>by simp
 | x::r,m+1,h=>by
  rw [List.take_succ_cons,uF,X0 n r m (fun k hk=>h k (ui _ hk)),uF,gz,h x (by simp),show x.take ((m+1)*n)=x from Y2 (by rw [h x (by simp),uZ];omega),uZ,dO,fV]
theorem k6 (n:Nat):∀ (ks:List (List UInt8)),(∀ k∈ks,k.length=n)→ks.flatten.length=ks.length*n
 | [],_=>by simp
 | x::r,h=>by
  rw [uF,q8,h x (by simp),k6 n r (fun k hk=>h k (ui _ hk)),uh,uZ,dO,Nat.add_comm]
theorem yB.cut {n:Nat} {w:World} {ao:Option Addr} {ks:List (List UInt8)} (h:yB n w ao ks) {cap:Nat} (hc:ks.length≤cap) (lo m:Nat):yB n w (Zj ao cap lo n) ((ks.drop lo).take m):=by
 have hd:∀ k∈ks.drop lo,k.length=n:=fun k hk=>h.each k (List.mem_of_mem_drop hk)
 refine ⟨fun k hk=>hd k (List.mem_of_mem_take hk),?_⟩
 rw [X0 n _ m hd,XZ n _ lo h.each]
 unfold Zj
 by_cases e:cap=lo
 ·rw [if_pos e,show ks.flatten.drop (lo*n)=[] from Yx (by rw [k6 n ks h.each];exact Nat.mul_le_mul_right n (by omega))]
  simp only [List.take_nil,List.map_nil]
  exact zr.nil _ _
 ·rw [if_neg e]
  have:=(h.lies.drop (lo*n)).take (m*n)
  rwa [← List.map_drop,← List.map_take] at this
theorem zbj:(Tryz.prog.info? 59).map (·.size)=some 16:=by kernel_rfl
structure qV (w:World) (kp q p:Nat) (ks:List (List UInt8)) (kb nI n cap:Nat):Prop where
 tab:Tab w q p
 len:ks.length=n
 two:2≤n
 zbS:n≤cap
 most:n≤1000
 rows:yB 16 w (some ⟨kb,nI,none⟩) ks
 blk:Blk w kp [.pointer (some ⟨q,0,none⟩),.slice (some ⟨kb,nI,none⟩) n cap] 301
theorem qV.later {w w':World} {kp q p:Nat} {ks:List (List UInt8)} {kb nI n cap:Nat} (h:qV w kp q p ks kb nI n cap) (hb:Below w.heap.size w w'):qV w' kp q p ks kb nI n cap :=
 ⟨h.tab.below hb (xc _),h.len,h.two,h.zbS,h.most,h.rows.below hb,h.blk.below hb h.blk.lt⟩
theorem qV.only {w w':World} {kp q p:Nat} {ks:List (List UInt8)} {kb nI n cap c:Nat} (h:qV w kp q p ks kb nI n cap) (ho:Only c w w') (h1:kp≠c) (h2:q≠c) (h3:p≠c) (h4:kb≠c):qV w' kp q p ks kb nI n cap:=by
 refine ⟨h.tab.only ho h3 h2,h.len,h.two,h.zbS,h.most,⟨h.rows.each,fun j u hu=>?_⟩,h.blk.only ho h1⟩
 obtain ⟨b,off,e,hc⟩:=h.rows.lies j u hu
 cases e
 refine ⟨kb,nI,rfl,?_⟩
 have hb:=ho.block kb h4
 simp only [World.cell?] at hc ⊢
 rw [hb]
 exact hc
theorem qV.drew {w:World} {kp q p:Nat} {ks:List (List UInt8)} {kb nI n cap:Nat} (h:qV w kp q p ks kb nI n cap):qV w.drew kp q p ks kb nI n cap:=h.later (Below.refl _ _).drew
theorem qV.sK {w:World} {kp q p:Nat} {ks:List (List UInt8)} {kb nI n cap:Nat} (h:qV w kp q p ks kb nI n cap) (i:Nat) (hi:i < n):(key ks i).length=16:=h.rows.each _ (xU (kB (by rw [h.len];exact hi)))
theorem qV.range {w:World} {kp q p:Nat} {ks:List (List UInt8)} {kb nI n cap:Nat} (h:qV w kp q p ks kb nI n cap) (i:Nat) (hi:i < n):w.rangeAt kb (nI+i*16) ((key ks i).map B)∧kb < w.heap.size:=by
 obtain ⟨b,off,e,hb,hr⟩:=h.rows.range (by omega) (kB (i:=i) (by rw [h.len];exact hi))
 cases e
 exact ⟨hr,hb⟩
theorem K7 (kp q p:Nat) (ks:List (List UInt8)) (kb nI n cap:Nat) (b:List UInt8) (w:World) (hk:qV w kp q p ks kb nI n cap) (hb:b.length=16) :
  Calls Tryz.prog 171 #[.pointer (some ⟨kp,0,none⟩),.agg (b.map B).toArray] w fun e w'=>e=.returned (.agg ((enc ks b).map B).toArray)∧Below w.heap.size w w':=by
 have HLB:=znq (show (b.map B).length=16 by rw [yf];exact hb)
 have zdN:=znq hb
 have HS:=znq (St.start w)
 have hkl:=hk.blk.lt
 have hkq:=hk.tab.tab.lt
 have hkp:=hk.tab.boxes.lt
 have hkk:=(hk.range 0 (by have:=hk.two;omega)).2
 have hn2:=hk.two
 have hnc:=hk.zbS
 have hmo:=hk.most
 have HK:=znq hk
 have HE:=znq (show enc ks b=last (rounds (both b (key ks 0)) ((ks.drop 1).take (n - 2))) (key ks (n - 1)) by rw [← hk.len];rfl)
 clear hb hk
 go_enter Tryz.func171,Tryz.ntmps171
 go_wp2_with (refine zh 59 _ (b.map B) _ rfl rfl rfl rfl ?_)
 intro w1 hb hbel;have HS:=znq (HS.znr.push hb hbel);have HK:=znq (HK.znr.later hbel);have hlt1:=hb.lt;clear hb hbel
 go_wp2_with (refine ze 59 ((zf 16).map B) _ rfl rfl zj rfl ?_)
 intro w2 hb hbel;have HS:=znq (HS.znr.push hb hbel);have HK:=znq (HK.znr.later hbel);have hlt2:=hb.lt;clear hb hbel
 generalize hbb:w.heap.size=bb at *
 generalize w1.heap.size=br at *
 have HBB:=znq hbb
 clear hbb
 have hc0:=fun (x:zG w2.drew)=>(HK.znr.drew.later x.later).blk.cell 0 _ rfl
 have hc1:=fun (x:zG w2.drew)=>(HK.znr.drew.later x.later).blk.cell 1 _ rfl
 have hd1:=HK.znr.blk.cell 1 _ rfl
 have hsl:=fun (w':World)=>zbi (P:=Tryz.prog) w' 299 59 16 Tryz.underlying299 zbj (some ⟨kb,nI,none⟩) n cap 1 (n - 1) 1 ((n:Int) - 1) rfl (by omega) (by omega) (by omega)
 go_wp2_with fail
 refine zn [0,1,2,3,4,5,6,7,8,9,10,12,13,14,15,16,17,11,18,19] (by kernel_rfl) (by kernel_rfl) ?_
 rintro w4 rfl
 iterate 4 refine m1R ?_
 refine zt (HS.znr.drew.get 1 rfl).range (HS.znr.drew.get 1 rfl).lt zc HLB.znr rfl rfl rfl rfl (fun K hK=>?_)
 go_simp;refine hK _ ?_;clear hK K
 iterate 5 refine m1R ?_
 have hr0:=(HK.znr.drew.range 0 (by omega)).1
 rw [dQ,gG] at hr0
 refine zt hr0 (HK.znr.drew.range 0 (by omega)).2 zc (by rw [yf];exact HK.znr.sK 0 (by omega)) rfl rfl rfl rfl (fun K hK=>?_)
 go_simp;refine hK _ ?_;clear hK K
 iterate 6 refine m1R ?_
 refine zi rfl rfl (by rfl) (fun K hK=>?_)
 go_simp
 refine (zbh b (key ks 0) _ zdN.znr (HK.znr.sK 0 (by omega))).mono ?_
 rintro e w5 ⟨rfl,hbel⟩
 have HS:=znq (HS.znr.drew.later hbel)
 have HK:=znq (HK.znr.drew.later hbel)
 go_simp
 refine hK _ _ hbel ?_
 clear hK K hbel hc0 hc1 hsl hr0 hd1
 refine zi rfl rfl (by rfl) (fun K hK=>?_)
 go_simp
 have hcut:=HK.znr.rows.cut (cap:=cap) (by rw [HK.znr.len];exact hnc) 1 (n - 2)
 refine (QI q p (both b (key ks 0)) (Zj (some ⟨kb,nI,none⟩) cap 1 16) (n - 1 - 1) (cap - 1) ((ks.drop 1).take (n - 2)) _ HK.znr.tab (zB _ _) (by rw [Ku,XQ,HK.znr.len];omega) (by omega) ⟨hcut.each,hcut.lies⟩).mono ?_
 clear hcut
 have hrl:=qG ((ks.drop 1).take (n - 2)) (both b (key ks 0)) (zB _ _)
 have HRL:=znq (show ((rounds (both b (key ks 0)) ((ks.drop 1).take (n - 2))).map B).length=16 by rw [yf];exact hrl)
 rintro e w6 ⟨rfl,hbel⟩
 generalize rounds (both b (key ks 0)) ((ks.drop 1).take (n - 2))=x at *
 have HS:=znq (HS.znr.later hbel)
 have HK:=znq (HK.znr.later hbel)
 go_simp
 refine hK _ _ hbel ?_
 clear hK K hbel
 refine zp rfl rfl (by rfl) (fun K hK=>?_)
 refine (HS.znr.get 1 rfl).mZ rfl rfl rfl zc HLB.znr HRL.znr (zg _) (fun w7 hb7 ho7=>hK _ _ ?_)
 clear hK K
 have HK:=znq (HK.znr.only ho7 (by omega) (by omega) (by omega) (by omega))
 have HS:=znq (HS.znr.change 1 hb7 ho7 (by omega) (by simp;omega))
 clear hb7 ho7
 go_simp
 refine zo ?_
 have hc0:=fun (x:zG w7.drew)=>(HK.znr.drew.later x.later).blk.cell 0 _ rfl
 have hc1:=fun (x:zG w7.drew)=>(HK.znr.drew.later x.later).blk.cell 1 _ rfl
 go_wp2_with fail
 refine zn [0,1,2,3,4,5,6,7,8,9,10,11,12,13] (by kernel_rfl) (by kernel_rfl) ?_
 rintro w8 rfl
 iterate 4 refine m1R ?_
 refine zt (HS.znr.drew.get 1 rfl).range (HS.znr.drew.get 1 rfl).lt zc HRL.znr rfl rfl rfl rfl (fun K hK=>?_)
 go_simp;refine hK _ ?_;clear hK K
 iterate 6 refine m1R ?_
 refine zt (HK.znr.drew.range (n - 1) (by omega)).1 (HK.znr.drew.range (n - 1) (by omega)).2 zc (by rw [yf];exact HK.znr.sK (n - 1) (by omega)) rfl rfl rfl rfl (fun K hK=>?_)
 go_simp;refine hK _ ?_;clear hK K
 refine zi rfl rfl (by rfl) (fun K hK=>?_)
 go_simp
 refine (zl5 q p x (key ks (n - 1)) _ HK.znr.tab.drew hrl (HK.znr.sK (n - 1) (by omega))).mono ?_
 rintro e w9 ⟨rfl,hbel⟩
 rw [← HE.znr]
 have HS:=znq (HS.znr.drew.later hbel)
 go_simp
 refine hK _ _ hbel ?_
 clear hK K hbel hc0 hc1
 refine zp rfl rfl (by rfl) (fun K hK=>?_)
 refine (HS.znr.get 0 rfl).mZ rfl rfl rfl zc (by rw [yf];exact zd 16) (by rw [yf];exact xJ _ _) (zg _) (fun w10 sD rH=>hK _ _ ?_)
 clear hK K
 have nE:=zk HS.znr.bel rH (by omega)
 go_simp
 refine zo ?_
 go_wp2
 refine sD.result rfl rfl rfl zc (by rw [yf];exact xJ _ _) ⟨rfl,?_⟩
 rw [HBB.znr]
 exact nE
theorem zjk (kp q p:Nat) (ks:List (List UInt8)) (kb nI n cap:Nat) (b:List UInt8) (w:World) (hk:qV w kp q p ks kb nI n cap) (hb:b.length=16) :
  Calls Tryz.prog 304 #[.pointer (some ⟨kp,0,none⟩),.agg (b.map B).toArray] w fun e w'=>e=.returned (.agg ((dec ks b).map B).toArray)∧Below w.heap.size w w':=by
 have HLB:=znq (show (b.map B).length=16 by rw [yf];exact hb)
 have zdN:=znq hb
 have HS:=znq (St.start w)
 have hkl:=hk.blk.lt
 have hkq:=hk.tab.tab.lt
 have hkp:=hk.tab.boxes.lt
 have hkk:=(hk.range 0 (by have:=hk.two;omega)).2
 have hn2:=hk.two
 have hnc:=hk.zbS
 have hmo:=hk.most
 have HK:=znq hk
 have HE:=znq (show dec ks b=both (Zf ks (n - 1) (jZ b (key ks (n - 1)))) (key ks 0) by rw [← hk.len];rfl)
 clear hb hk
 go_enter Tryz.func304,Tryz.ntmps304
 go_wp2_with (refine zh 59 _ (b.map B) _ rfl rfl rfl rfl ?_)
 intro w1 hb hbel;have HS:=znq (HS.znr.push hb hbel);have HK:=znq (HK.znr.later hbel);have hlt1:=hb.lt;clear hb hbel
 go_wp2_with (refine ze 59 ((zf 16).map B) _ rfl rfl zj rfl ?_)
 intro w2 hb hbel;have HS:=znq (HS.znr.push hb hbel);have HK:=znq (HK.znr.later hbel);have hlt2:=hb.lt;clear hb hbel
 generalize hbb:w.heap.size=bb at *
 generalize w1.heap.size=br at *
 have HBB:=znq hbb
 clear hbb
 have hc0:=fun (x:zG w2.drew)=>(HK.znr.drew.later x.later).blk.cell 0 _ rfl
 have hc1:=fun (x:zG w2.drew)=>(HK.znr.drew.later x.later).blk.cell 1 _ rfl
 have hd1:=HK.znr.blk.cell 1 _ rfl
 have hnn:(n:Int) - 1=((n - 1:Nat):Int):=by omega
 go_wp2_with fail
 refine zn [0,1,2,3,4,5,6,7,8,9,10,11,12,13] (by kernel_rfl) (by kernel_rfl) ?_
 rintro w4 rfl
 iterate 4 refine m1R ?_
 refine zt (HS.znr.drew.get 1 rfl).range (HS.znr.drew.get 1 rfl).lt zc HLB.znr rfl rfl rfl rfl (fun K hK=>?_)
 go_simp;refine hK _ ?_;clear hK K
 iterate 6 refine m1R ?_
 refine zt (HK.znr.drew.range (n - 1) (by omega)).1 (HK.znr.drew.range (n - 1) (by omega)).2 zc (by rw [yf];exact HK.znr.sK (n - 1) (by omega)) rfl rfl rfl rfl (fun K hK=>?_)
 go_simp;refine hK _ ?_;clear hK K
 refine zi rfl rfl (by rfl) (fun K hK=>?_)
 go_simp
 refine (zgr q p b (key ks (n - 1)) _ HK.znr.tab.drew zdN.znr (HK.znr.sK (n - 1) (by omega))).mono ?_
 rintro e w9 ⟨rfl,hbel⟩
 have HS:=znq (HS.znr.drew.later hbel)
 have HK:=znq (HK.znr.drew.later hbel)
 go_simp
 refine hK _ _ hbel ?_
 clear hK K hbel hc0 hc1 hd1
 refine zp rfl rfl (by rfl) (fun K hK=>?_)
 refine (HS.znr.get 1 rfl).mZ rfl rfl rfl zc HLB.znr (by rw [yf];exact jC _ _) (zg _) (fun w7 hb7 ho7=>hK _ _ ?_)
 clear hK K
 have HK:=znq (HK.znr.only ho7 (by omega) (by omega) (by omega) (by omega))
 have HS:=znq (HS.znr.change 1 hb7 ho7 (by omega) (by simp;omega))
 clear hb7 ho7
 go_simp
 refine zo ?_
 go_wp2_with fail
 go_loopw [5] (fun c wr=>∃ (i:Nat) (x:List UInt8),1≤i∧i≤n - 1∧c=.int .i64 i∧x.length=16∧Zf ks i x=Zf ks (n - 1) (jZ b (key ks (n - 1)))∧qV wr kp q p ks kb nI n cap∧St w bb wr [(br,(zf 16).map B,59),(bb,x.map B,59)]) (fun c _=>(intOf c).toNat)
 case atStart=>exact ⟨n - 1,jZ b (key ks (n - 1)),by omega,by omega,by rw [← hnn],jC _ _,rfl,HK.znr,HS.znr⟩
 case round =>
  clear HS HK
  obtain ⟨i,x,hi1,hi2,rfl,hx,he,hk,hs⟩:=hrel
  have HX:=znq hx
  have HXL:=znq (show (x.map B).length=16 by rw [yf];exact hx)
  have HD:=znq he
  have HK:=znq hk
  have HS:=znq hs
  clear hx he hk hs
  by_cases hlt:1 < i
  ·have hm:(i:Int) - 1=((i - 1:Nat):Int):=by omega
   have HD:=znq ((Xo ks i x hlt).symm.trans HD.znr)
   have hc0:=fun (x:zG wr.drew)=>(HK.znr.drew.later x.later).blk.cell 0 _ rfl
   have hc1:=fun (x:zG wr.drew)=>(HK.znr.drew.later x.later).blk.cell 1 _ rfl
   go_wp2_with fail
   refine zn [0,1,2,3,4,5,6,7,8,9,10,11,12,13] (by kernel_rfl) (by kernel_rfl) ?_
   rintro w4 rfl
   iterate 4 refine m1R ?_
   refine zt (HS.znr.drew.get 1 rfl).range (HS.znr.drew.get 1 rfl).lt zc HXL.znr rfl rfl rfl rfl (fun K hK=>?_)
   go_simp;refine hK _ ?_;clear hK K
   iterate 6 refine m1R ?_
   refine zt (HK.znr.drew.range (i - 1) (by omega)).1 (HK.znr.drew.range (i - 1) (by omega)).2 zc (by rw [yf];exact HK.znr.sK (i - 1) (by omega)) rfl rfl rfl rfl (fun K hK=>?_)
   go_simp;refine hK _ ?_;clear hK K
   refine zi rfl rfl (by rfl) (fun K hK=>?_)
   go_simp
   refine (zea q p x (key ks (i - 1)) _ HK.znr.tab.drew HX.znr (HK.znr.sK (i - 1) (by omega))).mono ?_
   rintro e w9 ⟨rfl,hbel⟩
   have HS:=znq (HS.znr.drew.later hbel)
   have HK:=znq (HK.znr.drew.later hbel)
   go_simp
   refine hK _ _ hbel ?_
   clear hK K hbel hc0 hc1
   refine zp rfl rfl (by rfl) (fun K hK=>?_)
   refine (HS.znr.get 1 rfl).mZ rfl rfl rfl zc HXL.znr (by rw [yf];exact kY _ _) (zg _) (fun w7 hb7 ho7=>hK _ _ ?_)
   clear hK K
   have HK:=znq (HK.znr.only ho7 (by omega) (by omega) (by omega) (by omega))
   have HS:=znq (HS.znr.change 1 hb7 ho7 (by omega) (by simp;omega))
   clear hb7 ho7
   go_simp
   refine zo ?_
   go_wp2
   go_roundw
   case rel=>exact ⟨i - 1,_,by omega,by omega,rfl,kY _ _,HD.znr,HK.znr,HS.znr⟩
   case measure=>simp [intOf];omega
  ·obtain rfl:i=1:=by omega
   have HE:=znq (show dec ks b=both x (key ks 0) by rw [HE.znr,← HD.znr];rfl)
   have hc1:=fun (x:zG wr.drew)=>(HK.znr.drew.later x.later).blk.cell 1 _ rfl
   go_wp2_with fail
   refine zn [0,1,2,3,4,5,6,7,8] (by kernel_rfl) (by kernel_rfl) ?_
   rintro w4 rfl
   refine zt (HS.znr.drew.get 1 rfl).range (HS.znr.drew.get 1 rfl).lt zc HXL.znr rfl rfl rfl rfl (fun K hK=>?_)
   go_simp;refine hK _ ?_;clear hK K
   iterate 5 refine m1R ?_
   have hr0:=(HK.znr.drew.range 0 (by omega)).1
   rw [dQ,gG] at hr0
   refine zt hr0 (HK.znr.drew.range 0 (by omega)).2 zc (by rw [yf];exact HK.znr.sK 0 (by omega)) rfl rfl rfl rfl (fun K hK=>?_)
   go_simp;refine hK _ ?_;clear hK K
   refine zi rfl rfl (by rfl) (fun K hK=>?_)
   go_simp
   refine (zbh x (key ks 0) _ HX.znr (HK.znr.sK 0 (by omega))).mono ?_
   rintro e w9 ⟨rfl,hbel⟩
   rw [← HE.znr]
   have HS:=znq (HS.znr.drew.later hbel)
   go_simp
   refine hK _ _ hbel ?_
   clear hK K hbel hc1 hr0
   refine zp rfl rfl (by rfl) (fun K hK=>?_)
   refine (HS.znr.get 0 rfl).mZ rfl rfl rfl zc (by rw [yf];exact zd 16) (by rw [yf];exact kG _ _) (zg _) (fun w10 sD rH=>hK _ _ ?_)
   clear hK K
   have nE:=zk HS.znr.bel rH (by omega)
   go_simp
   refine zo ?_
   go_wp2
   refine sD.result rfl rfl rfl zc (by rw [yf];exact kG _ _) ⟨rfl,?_⟩
   rw [HBB.znr]
   exact nE
end Go.Proofs.YtamdifhibogdiaaGreatDoor
namespace Go.Mem
open RowKit
section
variable {P:Program} {w:World}
theorem QJ (base:Nat) (t ty e:TypeId) (i:TypeInfo) (size:Nat) (ht:P.underlying t=some (.slice e)) (hi:P.info? e=some i)
  (v:Value) (n:Nat) (xs:List Value) (hown:w.ownsRow base e size v n xs) (ao:Option Addr) (c:Nat) :
  (Builtin.append_ #[t,t] ty #[v,.slice ao 0 c]).run P w=.ok v w:=by
 rcases hown.2 with ⟨rfl,rfl⟩ | ⟨g,cap,cur,rfl,_,_,hnc,_⟩
 ·cases ao <;> simp [Builtin.append_,run_underlying ht,sizeOf,typeInfo,hi,Builtin.lenOf,Builtin.firstCells,loadCells,loadCellsFrom]
 ·cases ao <;> simp [Builtin.append_,run_underlying ht,sizeOf,typeInfo,hi,Builtin.lenOf,Builtin.firstCells,hnc,storeCells,loadCells,loadCellsFrom]
theorem K8 (t ty:TypeId) (base:Nat) (e:TypeId) (i:TypeInfo) (z:Value) (bytes:Nat) (ht:P.underlying t=some (.slice e)) (hi:P.info? e=some i) (hz:i.zero=some z)
  (hsize:i.size=1) (hby:i.bytes=bytes) (hzs:z.cells.size=1)
  (v:Value) (n:Nat) (xs:List Value) (hown:w.ownsRow base e 1 v n xs)
  (ao:Option Addr) (m c:Nat) (news:List Value) (hl:news.length=m) (hlies:zr w ao news) (h1:∀ u∈news,u.oneCell'=true)
  (h63:n+m≤maxLen) (hbytes:(n+m)*bytes≤140737488355328) (hbase:base≤w.heap.size) :
  ∃ v' w',(Builtin.append_ #[t,t] ty #[v,.slice ao m c]).run P w=.ok v' w'∧w'.ownsRow base e 1 v' (n+m) (xs++news)∧w.grownBy w' v.ownBlock:=by
 by_cases hm:m=0
 ·subst hm
  obtain rfl:news=[]:=List.eq_nil_of_length_eq_zero hl
  exact ⟨v,w,QJ base t ty e i 1 ht hi v n xs hown ao c,by simpa using hown,World.grownBy.refl _ _⟩
 ·have hne:news≠[]:=by rintro rfl;simp at hl;omega
  obtain ⟨b,off,rfl,_,hc⟩:=hlies.at hne
  obtain ⟨g,cap,w',hr,ho,hg,_,_⟩:=run_append_lies w t ty base e i z 1 bytes ht hi hz hsize hby hzs (by decide) v n xs hown ⟨b,off,none⟩ m c news (by omega) hlies.news h1 (by omega) h63 hbytes hbase _ rfl
  exact ⟨_,w',hr,ho,hg⟩
theorem xX {o:Oper} {a:Act} {K:Act→World→Prop} {Q:Exit→Act→World→Prop} (s x:Operand) (t:TypeId)
  (ho:o.op=.call { callee:=.builtin .append,args:=#[s,x],argTypes:=#[t,t] })
  (base:Nat) (e:TypeId) (i:TypeInfo) (z:Value) (bytes:Nat) (ht:P.underlying t=some (.slice e)) (hi:P.info? e=some i) (hz:i.zero=some z)
  (hsize:i.size=1) (hby:i.bytes=bytes) (hzs:z.cells.size=1)
  (v:Value) (n:Nat) (xs:List Value) (hs:a.eval s=v) (hown:w.ownsRow base e 1 v n xs)
  (ao:Option Addr) (m c:Nat) (news:List Value) (hx:a.eval x=.slice ao m c) (hl:news.length=m) (hlies:zr w ao news) (h1:∀ u∈news,u.oneCell'=true)
  (h63:n+m≤maxLen) (hbytes:(n+m)*bytes≤140737488355328) (hbase:base≤w.heap.size)
  (h:∀ v' w',w'.ownsRow base e 1 v' (n+m) (xs++news)→w.grownBy w' v.ownBlock→K (a.put o.dst v') w'):o.wp P a w K Q:=by
 obtain ⟨v',w',hrun,h2,h3⟩:=K8 (P:=P) t o.type base e i z bytes ht hi hz hsize hby hzs v n xs hown ao m c news hl hlies h1 h63 hbytes hbase
 unfold Oper.wp
 simp [execOp,ho,resolve,invoke,builtin,hs,hx,hrun,Result.andThen]
 exact h _ _ h2 h3
theorem yD {ops:Array Oper} {rest:List Oper} {o:Oper} {a:Act} {Q:Exit→Act→World→Prop} (hgd:o.guard=none) (s x:Operand) (t:TypeId)
  (ho:o.op=.call { callee:=.builtin .append,args:=#[s,x],argTypes:=#[t,t] })
  (base:Nat) (e:TypeId) (i:TypeInfo) (z:Value) (bytes:Nat) (ht:P.underlying t=some (.slice e)) (hi:P.info? e=some i) (hz:i.zero=some z)
  (hsize:i.size=1) (hby:i.bytes=bytes) (hzs:z.cells.size=1)
  (v:Value) (n:Nat) (xs:List Value) (hs:a.eval s=v) (hown:w.ownsRow base e 1 v n xs)
  (ao:Option Addr) (m c:Nat) (news:List Value) (hx:a.eval x=.slice ao m c) (hl:news.length=m) (hlies:zr w ao news) (h1:∀ u∈news,u.oneCell'=true)
  (h63:n+m≤maxLen) (hbytes:(n+m)*bytes≤140737488355328) (hbase:base≤w.heap.size)
  (h:∀ v' w',w'.ownsRow base e 1 v' (n+m) (xs++news)→w.grownBy w' v.ownBlock→wpList P ops Q rest (a.put o.dst v') w'):wpList P ops Q (o::rest) a w :=
 wpList_plain hgd fun _ hK=>xX s x t ho base e i z bytes ht hi hz hsize hby hzs v n xs hs hown ao m c news hx hl hlies h1 h63 hbytes hbase fun v' w' h2 h3=>hK _ _ (h v' w' h2 h3)
theorem z8 {B:Nat} {a w':World} {base:Nat} {e:TypeId} {size:Nat} {v:Value} {n:Nat} {xs:List Value} (h:Below B a w) (hown:w.ownsRow base e size v n xs) (hg:w.grownBy w' v.ownBlock) (hb:B≤base) (hB:B≤w.heap.size):Below B a w' :=
 h.grown hg hB (fun k hk=>Nat.le_trans hb (hown.lt k hk).1)
theorem zm {w w':World} {base:Nat} {e:TypeId} {size:Nat} {v:Value} {n:Nat} {xs:List Value} (h:w.ownsRow base e size v n xs) (hb:Below w.heap.size w w'):w'.ownsRow base e size v n xs:=by
 refine ⟨h.1,h.2.imp id ?_⟩
 rintro ⟨g,cap,cur,hv,hg,hh,rest⟩
 exact ⟨g,cap,cur,hv,hg,by rw [hb.block g (Array.getElem?_eq_some_iff.1 hh).1];exact hh,rest⟩
theorem vL (w:World) (base:Nat) (e:TypeId) (size:Nat):w.ownsRow base e size (.slice none 0 0) 0 []:=⟨by simp,.inl ⟨rfl,rfl⟩⟩
theorem j9 (xs:List UInt8):∀ u∈xs.map B,u.oneCell'=true:=by
 intro u hu
 simp only [List.mem_map] at hu
 obtain ⟨x,_,rfl⟩:=hu
 rfl
end
end Go.Mem
namespace Go.Cells
open RowKit Mem Ops
theorem zbk:∀ (cs:List Value) (k off:Nat) (A:List Value),off+k+cs.length≤A.length →
  (cs.zipIdx k).foldl (fun (acc:Array Value) (p:Value×Nat)=>acc.setIfInBounds (off+p.2) p.1) A.toArray=(A.take (off+k)++cs++A.drop (off+k+cs.length)).toArray
 | [],k,off,A,_=>by simp
 | c::r,k,off,A,h=>by
  rw [uh] at h
  rw [lS,List.foldl_cons]
  simp only [List.setIfInBounds_toArray]
  rw [zbk r (k+1) off (A.set (off+k) c) (by rw [List.length_set];omega)]
  congr 1
  rw [List.drop_set_of_lt (by omega),uh,show off+(k+1)+r.length=off+k+(r.length+1) by omega]
  congr 1
  rw [show off+(k+1)=(off+k)+1 by omega,List.take_add_one,List.take_set_of_le (by omega)]
  simp [show off+k < A.length by omega]
theorem V3 (n:Nat):∀ (vs:List (List Value)) (k:Nat) (A:List Value),(∀ v∈vs,v.length=n)→(k+vs.length)*n≤A.length →
  Instr.fill (fun i=>some (i*n,n)) A.toArray ((vs.zipIdx k).map fun p=>(p.2,Value.agg p.1.toArray))=some (A.take (k*n)++vs.flatten++A.drop ((k+vs.length)*n)).toArray
 | [],k,A,_,_=>by simp [Instr.fill]
 | v::r,k,A,hv,h=>by
  have hn:=hv v (by simp)
  have hle:k*n+n≤A.length:=by
   have:(k+(v::r).length)*n=k*n+n+r.length*n:=by rw [uh,uZ,uZ,dO];omega
   omega
  rw [lS,List.map_cons]
  unfold Instr.fill
  have e:(Value.agg v.toArray).cells=v.toArray:=rfl
  simp only [e,List.size_toArray,hn]
  rw [if_neg (by simp;omega)]
  have hf:=zbk v 0 (k*n) A (by omega)
  simp only [gG] at hf
  have hz:v.toArray.zipIdx.foldl (fun (cs:Array Value) (p:Value×Nat)=>cs.setIfInBounds (k*n+p.2) p.1) A.toArray=(A.take (k*n)++v++A.drop (k*n+v.length)).toArray:=by
   rw [← hf]
   simp
  rw [hz,V3 n r (k+1) _ (fun u hu=>hv u (ui _ hu)) (by
   rw [q8,q8,Ku,XQ,hn,cz (by omega)]
   have:(k+(v::r).length)*n=(k+1+r.length)*n:=by rw [uh];congr 1;omega
   omega)]
  congr 2
  have h1:(k+1)*n=k*n+n:=by rw [uZ,dO]
  have h2:(k+(v::r).length)*n=k*n+n+r.length*n:=by rw [uh,uZ,uZ,dO];omega
  have h3:(k+1+r.length)*n=k*n+n+r.length*n:=by rw [uZ,h1]
  have hl:(A.take (k*n)++v).length=k*n+n:=by rw [q8,Ku,hn,cz (by omega)]
  rw [h1,h2,h3,gz,bK,hl,Y2 (by omega),Nat.sub_self,cO,bC,Yx (by omega),uo,List.drop_drop,hn,uF]
  simp only [List.append_assoc]
  congr 3
  congr 1
  omega
theorem wL {P:Program} (w:World) (t e:TypeId) (n m:Nat) (z:Value) (vs:List (List Value)) (parts:Array (Nat×Value)) (ht:P.underlying t=some (.slice e)) (hs:(P.info? e).map (fun i=>(i.zero,i.size))=some (some z,n)) (hz:z.cells.size=n)
  (hn:0 < n) (hm:vs.length=m) (hm0:0 < m) (hb:m*n≤16777216) (hv:∀ v∈vs,v.length=n) (hp:parts=((vs.zipIdx 0).map fun p=>(p.2,Value.agg p.1.toArray)).toArray) :
  (Instr.buildSlice t m parts).run P w=.ok (.slice (some ⟨w.heap.size,0,none⟩) m m) (w.alloc (.cells vs.flatten.toArray e)):=by
 cases hq:P.info? e with
 | none=>rw [hq] at hs;cases hs
 | some x =>
  rw [hq] at hs
  simp only [Option.map_some,Option.some.injEq,Prod.mk.injEq] at hs
  obtain ⟨h1,h2⟩:=hs
  have h0:m*n≠0:=Nat.mul_ne_zero (by omega) (by omega)
  have hf:=V3 n vs 0 ((uf (m*n)).map (z.cells[· % z.cells.size]!)) hv (by simp [hm])
  have hA:((Array.range (m*n)).map (z.cells[· % z.cells.size]!))=((uf (m*n)).map (z.cells[· % z.cells.size]!)).toArray:=by
   rw [← List.toArray_range,List.map_toArray]
  have hlen:((uf (m*n)).map (z.cells[· % z.cells.size]!)).length=m*n:=by simp
  rw [dQ,cO,uo,bH,hm,Yx (by omega),bC] at hf
  subst hp
  simp [Instr.buildSlice,run_underlying ht,sizeOf,typeInfo,hq,h2,h0,show ¬ (16777216 < m*n) by omega,zeroValue,h1,newRow]
  rw [hA,hf]
  rfl
theorem qQ {P:Program} {w:World} {ops:Array Oper} {rest:List Oper} {o:Oper} {a:Act} {Q:Exit→Act→World→Prop} (t e:TypeId) (n m:Nat) (z:Value) (vs:List (List Value)) {parts:Array (Nat×Operand)}
  (hgd:o.guard=none) (ho:o.op=.buildSlice t m parts) (hp':(parts.toList.map fun p=>(p.1,a.eval p.2))=(vs.zipIdx 0).map fun p=>(p.2,Value.agg p.1.toArray)) (ht:P.underlying t=some (.slice e)) (hs:(P.info? e).map (fun i=>(i.zero,i.size))=some (some z,n)) (hz:z.cells.size=n)
  (hn:0 < n) (hm:vs.length=m) (hm0:0 < m) (hb:m*n≤16777216) (hv:∀ v∈vs,v.length=n)
  (k:∀ w',Blk w' w.heap.size vs.flatten e→Below w.heap.size w w'→wpList P ops Q rest (a.put o.dst (.slice (some ⟨w.heap.size,0,none⟩) m m)) w'):wpList P ops Q (o::rest) a w:=by
 refine wpList_plain hgd fun K hK=>?_
 have hp:(parts.map fun (i,x)=>(i,a.eval x))=((vs.zipIdx 0).map fun p=>(p.2,Value.agg p.1.toArray)).toArray:=by
  apply lG.1
  rw [lH]
  exact hp'
 have hk:=k _ (Blk.new w vs.flatten e) (zD w _)
 have hrun:=wL (P:=P) w t e n m z vs _ ht hs hz hn hm hm0 hb hv hp
 unfold Oper.wp execOp
 simp only [ho,Sem.run_bind,hrun,Result.andThen_ok,Sem.run_pure]
 exact hK _ _ hk
theorem y8 {P:Program} {w:World} {o:Oper} {a:Act} {K:Act→World→Prop} {Q:Exit→Act→World→Prop} (t e:TypeId) (n m:Nat) (z:Value) (vs:List (List Value)) {parts:Array (Nat×Operand)}
  (ho:o.op=.buildSlice t m parts) (hp':(parts.toList.map fun p=>(p.1,a.eval p.2))=(vs.zipIdx 0).map fun p=>(p.2,Value.agg p.1.toArray)) (ht:P.underlying t=some (.slice e)) (hs:(P.info? e).map (fun i=>(i.zero,i.size))=some (some z,n)) (hz:z.cells.size=n)
  (hn:0 < n) (hm:vs.length=m) (hm0:0 < m) (hb:m*n≤16777216) (hv:∀ v∈vs,v.length=n)
  (k:∀ w',Blk w' w.heap.size vs.flatten e→Below w.heap.size w w'→K (a.put o.dst (.slice (some ⟨w.heap.size,0,none⟩) m m)) w'):o.wp P a w K Q:=by
 have hp:(parts.map fun (i,x)=>(i,a.eval x))=((vs.zipIdx 0).map fun p=>(p.2,Value.agg p.1.toArray)).toArray:=by
  apply lG.1
  rw [lH]
  exact hp'
 have hk:=k _ (Blk.new w vs.flatten e) (zD w _)
 have hrun:=wL (P:=P) w t e n m z vs _ ht hs hz hn hm hm0 hb hv hp
 unfold Oper.wp execOp
 simp only [ho,Sem.run_bind,hrun,Result.andThen_ok,Sem.run_pure]
 exact hk
end Go.Cells

/-
  Texts of this claim, one behind the other.
-/
import Derived.Test.YtjaioajjfiaheaaGreatDoorR4
import Derived.Test.YtjaioajjfiaheaaGreatDoorR1
import Derived.Deep.AppendLies
import Derived.Laws.OwnMore
import Derived.Lib.Hide
set_option linter.unusedVariables false
set_option linter.unusedSimpArgs false
set_option maxHeartbeats 16000000
set_option maxRecDepth 100000
namespace Go.Proofs.YtjaioajjfiaheaaGreatDoor
open Go.RowKit Go.Mem Go.Ops Go.Cells Go.Oct Go.Gf Go.Trn
attribute [local irreducible] zE zN zO zM
theorem _root_.Go.Cells.St.tab {w0 w:World} {base:Nat} {L:List (Nat×List Value×TypeId)} {q p:Nat} (h:St w0 base w L) (i j:Nat) (hi:L[i]? = some (p,Gf.boxes.map B,159)) (hj:L[j]? = some (q,.pointer (some ⟨p,0,none⟩)::(entries Gf.boxes).map W,153)):Tab w q p:=⟨h.get i hi,h.get j hj⟩
theorem zea (q p:Nat) (b key:List UInt8) (w:World) (ht:Tab w q p) (hlb:b.length=16) (hlk:key.length=16) :
  Calls Tryz.prog 220 #[.pointer (some ⟨q,0,none⟩),.agg (b.map B).toArray,.agg (key.map B).toArray] w fun e w'=>e=.returned (.agg ((vd b key).map B).toArray)∧Below w.heap.size w w':=by
 have HLB:=znq hlb
 have HLK:=znq hlk
 have HS:=znq (((St.start w).add ht.tab).add ht.boxes)
 have hlq:=ht.tab.lt
 have hlp:=ht.boxes.lt
 have hb16:=zB b key
 have HDEF:=znq (show vd b key=qg ((List.range 16).map (xT (both b key))) from rfl)
 clear ht hlb hlk
 go_enter Tryz.func220,Tryz.ntmps220
 go_wp2_with (refine zh 117 _ (b.map B) _ rfl rfl rfl rfl ?_)
 intro w1 hb hbel;have HS:=znq (HS.znr.push hb hbel);have hlt1:=hb.lt;clear hb hbel
 go_wp2_with (refine zh 117 _ (key.map B) _ rfl rfl rfl rfl ?_)
 intro w2 hb hbel;have HS:=znq (HS.znr.push hb hbel);have hlt2:=hb.lt;clear hb hbel
 go_wp2_with (refine ze 117 ((zf 16).map B) _ rfl rfl zj rfl ?_)
 intro w3 hb hbel;have HS:=znq (HS.znr.push hb hbel);have hlt3:=hb.lt;clear hb hbel
 go_wp2_with (refine ze 117 ((zf 16).map B) _ rfl rfl zj rfl ?_)
 intro w4 hb hbel;have HS:=znq (HS.znr.push hb hbel);have hlt4:=hb.lt;clear hb hbel
 generalize hbb:w.heap.size=bb at *
 generalize w1.heap.size=bk at *
 generalize w2.heap.size=br at *
 generalize w3.heap.size=bo at *
 have HBB:=znq hbb
 clear hbb
 go_wp2_with (first | (refine (HS.znr.get 3 rfl).wload rfl rfl rfl zc (by rw [List.length_map];exact HLB.znr) ?_) | (refine (HS.znr.get 2 rfl).wload rfl rfl rfl zc (by rw [List.length_map];exact HLK.znr) ?_))
 refine (WQ b key _ HLB.znr HLK.znr).mono ?_
 rintro e w5 ⟨rfl,hbel⟩
 have HS:=znq (HS.znr.later hbel)
 clear hbel
 go_wp2_with (refine (HS.znr.get 3 rfl).wstore rfl rfl rfl rfl zc (by rw [List.length_map];exact HLB.znr) (by rw [List.length_map];exact hb16) (zg _) ?_)
 intro w6 hb ho
 have HS:=znq (HS.znr.change 3 hb ho (by omega) (by simp;omega))
 clear hb ho
 go_wp2
 generalize hbx:both b key=bx at *
 have HBX:=znq hbx
 clear hbx
 go_loopw [18] (fun c wr=>∃ (k:Nat) (l:List UInt8),k≤4∧c=.int .i64 k∧yg (xT bx) 16 (4*k) l∧St w bb wr [(bo,l.map B,117),(br,(zf 16).map B,117),(bk,key.map B,117),(bb,bx.map B,117),(p,Gf.boxes.map B,159),(q,.pointer (some ⟨p,0,none⟩)::(entries Gf.boxes).map W,153)]) (fun c _=>4 - (intOf c).toNat)
 case atStart=>exact ⟨0,zf 16,by omega,rfl,yg.zero (zd _),HS.znr⟩
 case round =>
  clear HS
  obtain ⟨k,l,hk,rfl,hF,hs⟩:=hrel
  have HF:=znq hF
  have HS:=znq hs
  clear hF hs
  by_cases hlt:k < 4
  ·have hd:decide ((k:Int) < 4)=true:=by simp;omega
   go_wp2
   go_loopw [9,21] (fun n c ws=>∃ r:Nat,r≤4∧c=.int .i64 r∧n=W (qh bx k r)∧St w bb ws [(bo,l.map B,117),(br,(zf 16).map B,117),(bk,key.map B,117),(bb,bx.map B,117),(p,Gf.boxes.map B,159),(q,.pointer (some ⟨p,0,none⟩)::(entries Gf.boxes).map W,153)]) (fun _ c _=>4 - (intOf c).toNat)
   case atStart=>exact ⟨0,by omega,rfl,rfl,HS.znr⟩
   case round =>
    obtain ⟨r,hr,rfl,rfl,hs2⟩:=hrel
    by_cases hlt2:r < 4
    ·have hc1:=fun (x:zG wr.drew)=>((hs2.drew.later x.later).get 3 rfl).cell _ _ (zU (at8_get (b:=bx) (i:=r+4*k) (by rw [hb16];omega)))
     have hc2:=fun (x:zG wr.drew)=>((hs2.drew.later x.later).tab 4 5 rfl rfl).unmix r (at8 bx (r+4*k)) hlt2
     have h8:=lt8 (at8 bx (r+4*k))
     have HS2:=znq hs2
     clear hs2
     go_wp2_with fail
     refine zn [0,1,2,3,4,5,6,7,8,9,10,11,12,13,14,15] (by kernel_rfl) (by kernel_rfl) ?_
     rintro w6 rfl
     refine mqR ?_
     clear hc1 hc2 h8
     refine zo ?_
     go_wp2
     go_roundw
     case rel=>exact ⟨r+1,by omega,rfl,rfl,HS2.znr.drew⟩
     case measure=>simp [intOf];omega
    ·obtain rfl:r=4:=by omega
     have HS:=znq hs2
     clear hs2
     go_wp2_with fail
     refine (Zy _ _).mono ?_
     rintro e w8 ⟨rfl,hbel8⟩
     have HS:=znq (HS.znr.later hbel8)
     clear hbel8
     go_wp2_with (refine ze 155 ((zf 4).map B) _ rfl rfl Xq rfl ?_)
     intro w9 hb9 hbel9
     have hol:=HS.znr.ne _ (List.mem_of_getElem? (i:=0) rfl)
     have hkl:=HS.znr.ne _ (List.mem_of_getElem? (i:=2) rfl)
     simp only at hol hkl
     have HS:=znq (HS.znr.push hb9 hbel9)
     clear hb9 hbel9
     generalize w8.heap.size=bw at *
     go_wp2_with (refine (HS.znr.get 0 rfl).wstore rfl rfl rfl (cs:=(putWord (qh bx k 4)).map B) rfl kL (by simp [zd]) (by simp [yF]) (zg _) ?_)
     intro w10 hb10 ho10
     have HS:=znq (HS.znr.change 0 hb10 ho10 (by omega) (by simp;omega))
     clear hb10 ho10
     have hsl:=fun (w':World)=>yY (P:=Tryz.prog) w' 117 5 16 Tryz.underlying117 zl bo 0 (4*k) (4*(k:Int)) rfl (by omega)
     rw [Nat.zero_add] at hsl
     go_wp2_with fail
     refine zn [0,1,2,3,4] (by kernel_rfl) (by kernel_rfl) ?_
     rintro w11 rfl
     refine mqR ?_
     refine zp rfl rfl (by rfl) (fun K hK=>?_)
     refine (HS.znr.drew.get 1 rfl).opcopy (4*k) ((putWord (qh bx k 4)).map B) rfl rfl rfl Tryz.underlying22 zl (fun _=>rfl) (HS.znr.drew.get 0 rfl).lies (by rw [List.length_map,yF];exact (Nat.min_eq_left (by omega)).symm) (by rw [List.length_map,List.length_map,yF,HF.znr.1];omega) (zg _) (fun w12 hb12 ho12=>hK _ _ ?_)
     clear hK K hsl
     rw [xV] at hb12
     have hF12:=HF.znr.splice (m:=4) (cs:=putWord (qh bx k 4)) (by omega) (yF _) (fun j hj=>WK bx k j hj)
     have HF:=znq (show yg (xT bx) 16 (4*(k+1)) (splice l (4*k) (putWord (qh bx k 4))) from hF12)
     have hs12:=HS.znr.drew.change 1 hb12 ho12 (by omega) (by simp;omega)
     have HS:=znq (show St w bb w12 [(bo,(splice l (4*k) (putWord (qh bx k 4))).map B,117),(br,(zf 16).map B,117),(bk,key.map B,117),(bb,bx.map B,117),(p,Gf.boxes.map B,159),(q,.pointer (some ⟨p,0,none⟩)::(entries Gf.boxes).map W,153)] from ⟨hs12.base_le,hs12.bel,fun e he=>hs12.all e (List.mem_cons_of_mem _ he)⟩)
     clear hb12 ho12 hF12 hs12
     go_simp
     refine zo ?_
     go_wp2
     go_roundw
     case rel=>exact ⟨k+1,_,by omega,rfl,HF.znr,HS.znr⟩
     case measure=>simp [intOf];omega
  ·obtain rfl:k=4:=by omega
   have HE:=znq (show l=(List.range 16).map (xT bx) from HF.znr.all)
   have hl16:=HF.znr.1
   have HL16:=znq (show (l.map B).length=16 by rw [List.length_map];exact hl16)
   go_wp2_with (refine (HS.znr.get 0 rfl).wload rfl rfl rfl zc HL16.znr ?_)
   refine (K5 q p l _ (HS.znr.tab 4 5 rfl rfl) hl16).mono ?_
   rintro e w6 ⟨rfl,hbel6⟩
   have HS:=znq (HS.znr.later hbel6)
   clear hbel6
   go_wp2_with (refine (HS.znr.get 1 rfl).wstore rfl rfl rfl rfl zc (by rw [List.length_map];exact zd 16) (by rw [List.length_map];exact qi _) (zg _) ?_)
   intro w9 hb9 ho9
   have hbel9:=zk HS.znr.bel ho9 (by omega)
   go_wp2
   refine hb9.result rfl rfl rfl zc (by rw [List.length_map];exact qi _) ⟨by rw [HE.znr,HDEF.znr],?_⟩
   rw [HBB.znr]
   exact hbel9
theorem zgr (q p:Nat) (b key:List UInt8) (w:World) (ht:Tab w q p) (hlb:b.length=16) (hlk:key.length=16) :
  Calls Tryz.prog 219 #[.pointer (some ⟨q,0,none⟩),.agg (b.map B).toArray,.agg (key.map B).toArray] w fun e w'=>e=.returned (.agg ((jZ b key).map B).toArray)∧Below w.heap.size w w':=by
 have HLB:=znq (show (b.map B).length=16 by rw [List.length_map];exact hlb)
 have HLK:=znq (show (key.map B).length=16 by rw [List.length_map];exact hlk)
 have HLB2:=znq hlb
 have HLK2:=znq hlk
 have HS:=znq (((St.start w).add ht.tab).add ht.boxes)
 have hlq:=ht.tab.lt
 have hlp:=ht.boxes.lt
 clear ht hlb hlk
 go_enter Tryz.func219,Tryz.ntmps219
 go_wp2_with (refine zh 117 _ (b.map B) _ rfl rfl rfl rfl ?_)
 intro w1 hb hbel;have HS:=znq (HS.znr.push hb hbel);have hlt1:=hb.lt;clear hb hbel
 go_wp2_with (refine zh 117 _ (key.map B) _ rfl rfl rfl rfl ?_)
 intro w2 hb hbel;have HS:=znq (HS.znr.push hb hbel);have hlt2:=hb.lt;clear hb hbel
 go_wp2_with (refine ze 117 ((zf 16).map B) _ rfl rfl zj rfl ?_)
 intro w3 hb hbel;have HS:=znq (HS.znr.push hb hbel);have hlt3:=hb.lt;clear hb hbel
 generalize hbb:w.heap.size=bb at *
 generalize w1.heap.size=bk at *
 generalize w2.heap.size=br at *
 have HBB:=znq hbb
 clear hbb
 go_wp2_with (first | (refine (HS.znr.get 2 rfl).wload rfl rfl rfl zc HLB.znr ?_) | (refine (HS.znr.get 1 rfl).wload rfl rfl rfl zc HLK.znr ?_))
 refine (WQ b key _ HLB2.znr HLK2.znr).mono ?_
 rintro e w5 ⟨rfl,hbel⟩
 have HS:=znq (HS.znr.later hbel)
 clear hbel
 go_wp2_with fail
 refine (K5 q p (both b key) _ (HS.znr.tab 3 4 rfl rfl) (zB _ _)).mono ?_
 rintro e w6 ⟨rfl,hbel⟩
 have HS:=znq (HS.znr.later hbel)
 clear hbel
 go_wp2_with (refine (HS.znr.get 0 rfl).wstore rfl rfl rfl rfl zc (by rw [List.length_map];exact zd 16) (by rw [List.length_map];exact qi _) (zg _) ?_)
 intro w9 hb9 ho9
 have hbel9:=zk HS.znr.bel ho9 (by omega)
 go_wp2
 refine hb9.result rfl rfl rfl zc (by rw [List.length_map];exact qi _) ⟨rfl,?_⟩
 rw [HBB.znr]
 exact hbel9
theorem zl6 (q p:Nat) (a:UInt8) (w:World) (ht:Tab w q p) :
  Calls Tryz.prog 80 #[.pointer (some ⟨q,0,none⟩),B a] w fun e w'=>e=.returned (B (at8 Gf.boxes a.toNat))∧w=w':=by
 have hc:=ht.cellBox
 have HT:=znq ht
 clear ht
 go_enter Tryz.func80,Tryz.ntmps80
 go_wp2_with fail
 refine (zjc p Gf.boxes a _ kX HT.znr.boxes).mono ?_
 rintro e w1 ⟨rfl,rfl⟩
 go_wp2
 go_ret
 exact ⟨rfl,by trivial⟩
structure Yg (w:World) (ao:Option Addr) (ks:List (List UInt8)):Prop where
 each:∀ k∈ks,k.length=16
 lies:zr w ao ((ks.flatten).map B)
theorem ZC (n:Nat):∀ (ks:List (List UInt8)) (i j:Nat) (k:List UInt8),(∀ k∈ks,k.length=n)→ks[i]? = some k→j < n→ks.flatten[n*i+j]? = k[j]?
 | [],_,_,_,_,h,_=>by simp at h
 | x::r,0,j,k,he,h,hj=>by
  simp at h;subst h
  rw [List.flatten_cons,Nat.mul_zero,Nat.zero_add,List.getElem?_append_left (by rw [he x (by simp)];exact hj)]
 | x::r,i+1,j,k,he,h,hj=>by
  rw [List.getElem?_cons_succ] at h
  rw [List.flatten_cons,List.getElem?_append_right (by rw [he x (by simp),Nat.mul_add];omega),he x (by simp),show n*(i+1)+j - n=n*i+j by rw [Nat.mul_add];omega]
  exact ZC n r i j k (fun k hk=>he k (List.mem_cons_of_mem _ hk)) h hj
theorem Yg.range {w:World} {ao:Option Addr} {ks:List (List UInt8)} (h:Yg w ao ks) {i:Nat} {k:List UInt8} (hi:ks[i]? = some k):∃ b off,ao=some ⟨b,off,none⟩∧b < w.heap.size∧w.rangeAt b (off+i*16) (k.map B):=by
 have hk:=h.each k (List.mem_of_getElem? hi)
 have hat:∀ j v,(k.map B)[j]? = some v→((ks.flatten).map B)[16*i+j]? = some v:=fun j v hv=>by
  rw [List.getElem?_map] at hv ⊢
  have hj:j < 16:=by
   rcases Nat.lt_or_ge j 16 with h | h
   ·exact h
   ·rw [List.getElem?_eq_none (by omega)] at hv;cases hv
  rw [ZC 16 ks i j k h.each hi hj]
  exact hv
 have h0:(k.map B)[0]? = some (B (at8 k 0)):=zU (at8_get (by omega))
 obtain ⟨b,off,rfl,hc⟩:=h.lies _ _ (hat 0 _ h0)
 refine ⟨b,off,rfl,block_lt_of_cell hc,fun j v hv=>?_⟩
 obtain ⟨b',off',e,hc'⟩:=h.lies _ _ (hat j v hv)
 cases e
 rw [show off+i*16+j=off+(16*i+j) by omega]
 exact hc'
theorem QI (q p:Nat) (b:List UInt8) (ao:Option Addr) (n cap:Nat) (ks:List (List UInt8)) (w:World) (ht:Tab w q p) (hlb:b.length=16) (hn:ks.length=n) (hnb:n≤1099511627776) (hk:Yg w ao ks) :
  Calls Tryz.prog 111 #[.pointer (some ⟨q,0,none⟩),.agg (b.map B).toArray,.slice ao n cap] w fun e w'=>e=.returned (.agg ((rounds b ks).map B).toArray)∧Below w.heap.size w w':=by
 have HLB:=znq (show (b.map B).length=16 by rw [List.length_map];exact hlb)
 have HLB2:=znq hlb
 have HN:=znq hn
 have HK:=znq hk
 have HS:=znq (((St.start w).add ht.tab).add ht.boxes)
 have hlq:=ht.tab.lt
 have hlp:=ht.boxes.lt
 clear ht hlb hn hk
 go_enter Tryz.func111,Tryz.ntmps111
 go_wp2_with (refine zh 117 _ (b.map B) _ rfl rfl rfl rfl ?_)
 intro w1 hb hbel;have HS:=znq (HS.znr.push hb hbel);have hlt1:=hb.lt;clear hb hbel
 go_wp2_with (refine ze 117 ((zf 16).map B) _ rfl rfl zj rfl ?_)
 intro w2 hb hbel;have HS:=znq (HS.znr.push hb hbel);have hlt2:=hb.lt;clear hb hbel
 generalize hbb:w.heap.size=bb at *
 generalize w1.heap.size=br at *
 have HBB:=znq hbb
 clear hbb
 go_wp2
 go_loopw [14] (fun c wr=>∃ (i:Nat) (x:List UInt8),i≤n∧c=.int .i64 i∧x.length=16∧rounds x (ks.drop i)=rounds b ks∧St w bb wr [(br,(zf 16).map B,117),(bb,x.map B,117),(p,Gf.boxes.map B,159),(q,.pointer (some ⟨p,0,none⟩)::(entries Gf.boxes).map W,153)]) (fun c _=>n - (intOf c).toNat)
 case atStart=>exact ⟨0,b,by omega,rfl,HLB2.znr,rfl,HS.znr⟩
 case round =>
  clear HS
  obtain ⟨i,x,hi,rfl,hx,he,hs⟩:=hrel
  have HX:=znq hx
  have HX2:=znq (show (x.map B).length=16 by rw [List.length_map];exact hx)
  have HE:=znq he
  have HS:=znq hs
  clear hx he hs
  by_cases hlt:i < n
  ·obtain ⟨k,hki⟩:∃ k,ks[i]? = some k:=⟨ks[i]'(by rw [HN.znr];exact hlt),by simp [HN.znr,hlt]⟩
   have hk16:=HK.znr.each k (List.mem_of_getElem? hki)
   have HKL:=znq (show (k.map B).length=16 by rw [List.length_map];exact hk16)
   obtain ⟨kb,koff,rfl,hkb,hrg⟩:=HK.znr.range hki
   have hstep:rounds x (ks.drop i)=rounds (round x k) (ks.drop (i+1)):=by
    rw [List.drop_eq_getElem_cons (by rw [HN.znr];exact hlt)]
    rw [show ks[i]'(by rw [HN.znr];exact hlt)=k by simpa [HN.znr,hlt] using hki]
    rfl
   have HE:=znq (hstep.symm.trans HE.znr)
   have HRG:=znq (ke hrg HS.znr.bel (by rw [← HBB.znr];exact hkb))
   clear hstep hrg hki
   go_wp2_with (first | (refine wpList_load_mid rfl 117 (.tmp 16) rfl kb (koff+i*16) rfl _ _ HRG.znr Tryz.underlying117 rfl (by rw [HKL.znr];exact zc.2) ?_) | (refine ze 117 ((zf 16).map B) _ rfl rfl zj rfl ?_))
   intro w3 hb3 hbel3
   have hbl:=HS.znr.ne _ (List.mem_of_getElem? (i:=0) rfl)
   simp only at hbl
   have HS:=znq (HS.znr.push hb3 hbel3)
   clear hb3 hbel3
   generalize wr.heap.size=bw at *
   go_wp2_with (refine (HS.znr.get 0 rfl).wstore rfl rfl rfl rfl zc (by rw [List.length_map];exact zd 16) HKL.znr (zg _) ?_)
   intro w4 hb4 ho4
   have HS:=znq (HS.znr.change 0 hb4 ho4 (by omega) (by simp;omega))
   clear hb4 ho4
   go_wp2_with (first | (refine (HS.znr.get 2 rfl).wload rfl rfl rfl zc HX2.znr ?_) | (refine (HS.znr.get 0 rfl).wload rfl rfl rfl zc HKL.znr ?_))
   refine (zje q p x k _ (HS.znr.tab 3 4 rfl rfl) HX.znr hk16).mono ?_
   rintro e w5 ⟨rfl,hbel5⟩
   have HS:=znq (HS.znr.later hbel5)
   clear hbel5
   have HRL:=znq (show ((round x k).map B).length=16 by rw [List.length_map];exact ve _ _)
   go_wp2_with (refine (HS.znr.get 2 rfl).wstore rfl rfl rfl rfl zc HX2.znr HRL.znr (zg _) ?_)
   intro w6 hb6 ho6
   have hs6:=HS.znr.change 2 hb6 ho6 (by omega) (by simp;omega)
   have HS:=znq (show St w bb w6 [(br,(zf 16).map B,117),(bb,(round x k).map B,117),(p,Gf.boxes.map B,159),(q,.pointer (some ⟨p,0,none⟩)::(entries Gf.boxes).map W,153)] from ⟨hs6.base_le,hs6.bel,fun e he=>hs6.all e (List.mem_cons_of_mem _ he)⟩)
   clear hb6 ho6 hs6
   go_wp2
   go_roundw
   case rel=>exact ⟨i+1,_,by omega,rfl,ve _ _,HE.znr,HS.znr⟩
   case measure=>simp [intOf];omega
  ·obtain rfl:i=n:=by omega
   have hfin:x=rounds b ks:=by
    have:=HE.znr
    rw [List.drop_eq_nil_of_le (by rw [HN.znr];exact Nat.le_refl _)] at this
    exact this
   have HFIN:=znq hfin
   clear hfin
   go_wp2_with (first | (refine (HS.znr.get 1 rfl).wload rfl rfl rfl zc HX2.znr ?_) | (refine (HS.znr.get 0 rfl).wstore rfl rfl rfl rfl zc (by rw [List.length_map];exact zd 16) HX2.znr (zg _) ?_))
   intro w9 hb9 ho9
   have hbel9:=zk HS.znr.bel ho9 (by omega)
   go_wp2
   refine hb9.result rfl rfl rfl zc HX2.znr ⟨by rw [HFIN.znr],?_⟩
   rw [HBB.znr]
   exact hbel9
end Go.Proofs.YtjaioajjfiaheaaGreatDoor
namespace Go.Proofs.YtjaioajjfiaheaaGreatDoor
open Go.RowKit Go.Mem Go.Ops Go.Cells Go.Oct Go.Gf Go.Trn Go.Aes
attribute [local irreducible] zE zN zO zM
theorem yA:Row Tryz.prog 221 4:=⟨by kernel_rfl,by kernel_rfl⟩
theorem jD:(Tryz.prog.info? 221).map (·.zero)=some (some (.agg ((zf 4).map B).toArray)):=by kernel_rfl
theorem K6:(Tryz.prog.underlying 5).map (·.isRow)=some false:=by kernel_rfl
theorem zjg (w:World):Calls Tryz.prog 149 #[.int .i64 32] w fun e w'=>e=.returned (.tuple #[.int .i64 8,.bool true,.int .i64 0])∧w=w':=by
 go_enter Tryz.func149,Tryz.ntmps149
 go_wp2
 go_ret3
 exact ⟨rfl,rfl⟩
theorem zjh (w:World):Calls Tryz.prog 149 #[.int .i64 16] w fun e w'=>e=.returned (.tuple #[.int .i64 4,.bool false,.int .i64 0])∧w=w':=by
 go_enter Tryz.func149,Tryz.ntmps149
 go_wp2
 go_ret3
 exact ⟨rfl,rfl⟩
theorem zji (w:World):Calls Tryz.prog 149 #[.int .i64 24] w fun e w'=>e=.returned (.tuple #[.int .i64 6,.bool false,.int .i64 0])∧w=w':=by
 go_enter Tryz.func149,Tryz.ntmps149
 go_wp2
 go_ret3
 exact ⟨rfl,rfl⟩
theorem zbg (q p:Nat) (x:List UInt8) (w:World) (ht:Tab w q p) (hx:x.length=4) :
  Calls Tryz.prog 152 #[.pointer (some ⟨q,0,none⟩),.agg (x.map B).toArray] w fun e w'=>e=.returned (.agg ((subW x).map B).toArray)∧Below w.heap.size w w':=by
 have HX:=znq hx
 have HXL:=znq (show (x.map B).length=4 by rw [List.length_map];exact hx)
 have HS:=znq (((St.start w).add ht.tab).add ht.boxes)
 have hlq:=ht.tab.lt
 have hlp:=ht.boxes.lt
 clear ht hx
 go_enter Tryz.func152,Tryz.ntmps152
 go_wp2_with (refine zh 221 _ (x.map B) _ rfl rfl rfl rfl ?_)
 intro w1 hb hbel;have HS:=znq (HS.znr.push hb hbel);have hlt1:=hb.lt;clear hb hbel
 go_wp2_with (refine ze 221 ((zf 4).map B) _ rfl rfl jD rfl ?_)
 intro w2 hb hbel;have HS:=znq (HS.znr.push hb hbel);have hlt2:=hb.lt;clear hb hbel
 generalize hbb:w.heap.size=bb at *
 generalize w1.heap.size=br at *
 have HBB:=znq hbb
 clear hbb
 go_wp2_with (refine (HS.znr.get 1 rfl).wload rfl rfl rfl yA HXL.znr ?_)
 go_loopw [8] (fun c wr=>∃ (i:Nat) (l:List UInt8),i≤4∧c=.int .i64 i∧yg (fun i=>at8 Gf.boxes (at8 x i).toNat) 4 i l∧St w bb wr [(br,(zf 4).map B,221),(bb,l.map B,221),(p,Gf.boxes.map B,159),(q,.pointer (some ⟨p,0,none⟩)::(entries Gf.boxes).map W,153)]) (fun c _=>4 - (intOf c).toNat)
 case atStart=>exact ⟨0,x,by omega,rfl,yg.zero HX.znr,HS.znr⟩
 case round =>
  clear HS
  obtain ⟨i,l,hi,rfl,hF,hs⟩:=hrel
  have HF:=znq hF
  have HS:=znq hs
  clear hF hs
  by_cases hlt:i < 4
  ·have hix:=fun (w':World)=>qF (P:=Tryz.prog) w' 221 5 4 (x.map B).toArray .i64 i (B (at8 x i)) Tryz.underlying221 K6 zl (by rw [List.getElem?_toArray];exact zU (at8_get (by rw [HX.znr];exact hlt))) hlt
   obtain ⟨y,hy⟩:=HF.znr.at hlt
   clear hy
   go_wp2_with fail
   refine (zl6 q p (at8 x i) _ (HS.znr.tab 2 3 rfl rfl)).mono ?_
   rintro e w5 ⟨rfl,rfl⟩
   obtain ⟨y,hy⟩:=HF.znr.at hlt
   have hc:=(HS.znr.get 1 rfl).cell i _ (zU hy)
   have hf:=(HS.znr.get 1 rfl).free i
   clear hy hix
   go_wp2
   have hb5:=(HS.znr.get 1 rfl).set i (B (at8 Gf.boxes (at8 x i).toNat))
   rw [ym] at hb5
   have hs5:=HS.znr.change 1 hb5 (Only.setCell _ ⟨bb,i,none⟩ _) (by omega) (by simp;omega)
   go_roundw
   case rel=>exact ⟨i+1,_,by omega,rfl,HF.znr.step hlt,hs5⟩
   case measure=>simp [intOf];omega
  ·obtain rfl:i=4:=by omega
   have HE:=znq (show l=subW x from HF.znr.all)
   have HL:=znq (show (l.map B).length=4 by rw [List.length_map];exact HF.znr.1)
   go_wp2_with (first | (refine (HS.znr.get 1 rfl).wload rfl rfl rfl yA HL.znr ?_) | (refine (HS.znr.get 0 rfl).wstore rfl rfl rfl rfl yA (by rw [List.length_map];exact zd 4) HL.znr (zg _) ?_))
   intro w9 hb9 ho9
   have hbel9:=zk HS.znr.bel ho9 (by omega)
   go_wp2
   refine hb9.result rfl rfl rfl yA HL.znr ⟨by rw [HE.znr],?_⟩
   rw [HBB.znr]
   exact hbel9
theorem zjj (a b:List UInt8) (w:World) (ha:a.length=4) (hb:b.length=4):Calls Tryz.prog 153 #[.agg (a.map B).toArray,.agg (b.map B).toArray] w fun e w'=>e=.returned (.agg ((plusW a b).map B).toArray)∧Below w.heap.size w w':=by
 have HLA:=znq ha
 have HLB:=znq hb
 have HS:=znq (St.start w)
 clear ha hb
 go_enter Tryz.func153,Tryz.ntmps153
 go_wp2_with (refine zh 221 _ (a.map B) _ rfl rfl rfl rfl ?_)
 intro w1 hb hbel;have HS:=znq (HS.znr.push hb hbel);have hlt1:=hb.lt;clear hb hbel
 go_wp2_with (refine zh 221 _ (b.map B) _ rfl rfl rfl rfl ?_)
 intro w2 hb hbel;have HS:=znq (HS.znr.push hb hbel);have hlt2:=hb.lt;clear hb hbel
 go_wp2_with (refine ze 221 ((zf 4).map B) _ rfl rfl jD rfl ?_)
 intro w3 hb hbel;have HS:=znq (HS.znr.push hb hbel);have hlt3:=hb.lt;clear hb hbel
 generalize hbb:w.heap.size=bb at *
 generalize w1.heap.size=bk at *
 generalize w2.heap.size=br at *
 have HBB:=znq hbb
 clear hbb
 go_wp2
 go_loopw [6] (fun c wr=>∃ (j:Nat) (l:List UInt8),j≤4∧c=.int .i64 j∧l.length=4∧(∀ i,i < j→l[i]? = some (ya (at8 a i) (at8 b i)))∧(∀ i,j≤i→l[i]? = a[i]?)∧St w bb wr [(br,(zf 4).map B,221),(bk,b.map B,221),(bb,l.map B,221)]) (fun c _=>4 - (intOf c).toNat)
 case atStart=>exact ⟨0,a,by omega,rfl,HLA.znr,fun i hi=>absurd hi (by omega),fun i _=>rfl,HS.znr⟩
 case round =>
  clear HS
  obtain ⟨j,l,hj,rfl,hll,hl1,hl2,hs⟩:=hrel
  have HLL:=znq hll
  have HL1:=znq hl1
  have HS:=znq hs
  by_cases hlt:j < 4
  ·have hx:l[j]? = some (at8 a j):=by rw [hl2 j (Nat.le_refl _)];exact at8_get (by rw [HLA.znr];omega)
   have hc1:=fun (x:zG wr.drew)=>((hs.drew.later x.later).get 2 rfl).cell j _ (zU hx)
   have hc2:=fun (x:zG wr.drew)=>((hs.drew.later x.later).get 1 rfl).cell j _ (zU (at8_get (b:=b) (i:=j) (by rw [HLB.znr];omega)))
   have HL2:=znq hl2
   clear hll hl1 hl2 hs hx
   go_wp2_with fail
   refine zn [0,1,2,3,4,5,6,7,8] (by kernel_rfl) (by kernel_rfl) ?_
   rintro w4 rfl
   refine mqR ?_
   clear hc1 hc2
   refine zp rfl rfl (by rfl) (fun K hK=>?_)
   refine (HS.znr.drew.get 2 rfl).opset (v:=B (ya (at8 a j) (at8 b j))) rfl rfl rfl zl rfl rfl (by rw [List.length_map,HLL.znr];omega) (fun w5 hb5 ho5=>hK _ _ ?_)
   clear hK K
   rw [ym] at hb5
   have HS5:=znq (HS.znr.drew.change 2 hb5 ho5 (by omega) (by simp;omega))
   clear ho5 hb5
   go_simp
   refine zo ?_
   go_wp2
   go_roundw
   case rel =>
    refine ⟨j+1,_,by omega,rfl,by simpa using HLL.znr,fun i hi=>?_,fun i hi=>?_,HS5.znr⟩
    ·rw [List.getElem?_set]
     by_cases e:j=i
     ·subst e;simp [HLL.znr,hlt]
     ·rw [if_neg e];exact HL1.znr i (by omega)
    ·rw [List.getElem?_set_ne (by omega)]
     exact HL2.znr i (by omega)
   case measure=>simp [intOf];omega
  ·obtain rfl:j=4:=by omega
   have HE:=znq (show l=plusW a b from yg.all (f:=fun i=>ya (at8 a i) (at8 b i)) ⟨hll,hl1⟩)
   have HL:=znq (show (l.map B).length=4 by rw [List.length_map];exact hll)
   clear hll hl1 hl2 hs
   go_wp2_with (first | (refine (HS.znr.get 2 rfl).wload rfl rfl rfl yA HL.znr ?_) | (refine (HS.znr.get 0 rfl).wstore rfl rfl rfl rfl yA (by rw [List.length_map];exact zd 4) HL.znr (zg _) ?_))
   intro w6 hb6 ho6
   have hbel6:=zk HS.znr.bel ho6 (by omega)
   go_wp2
   refine hb6.result rfl rfl rfl yA HL.znr ⟨by rw [HE.znr],?_⟩
   rw [HBB.znr]
   exact hbel6
end Go.Proofs.YtjaioajjfiaheaaGreatDoor
namespace Go.Proofs.YtjaioajjfiaheaaGreatDoor
open Go.RowKit Go.Mem Go.Ops Go.Cells Go.Oct Go.Gf Go.Trn Go.Aes
attribute [local irreducible] zE zN zO zM
theorem zbh (a b:List UInt8) (w:World) (ha:a.length=16) (hb:b.length=16):Calls Tryz.prog 156 #[.agg (a.map B).toArray,.agg (b.map B).toArray] w fun e w'=>e=.returned (.agg ((both a b).map B).toArray)∧Below w.heap.size w w':=by
 have HLA:=znq ha
 have HLB:=znq hb
 have HS:=znq (St.start w)
 have HBX:=znq (QD a b ha hb)
 clear ha hb
 go_enter Tryz.func156,Tryz.ntmps156
 go_wp2_with (refine zh 117 _ (a.map B) _ rfl rfl rfl rfl ?_)
 intro w1 hb hbel;have HS:=znq (HS.znr.push hb hbel);have hlt1:=hb.lt;clear hb hbel
 go_wp2_with (refine zh 117 _ (b.map B) _ rfl rfl rfl rfl ?_)
 intro w2 hb hbel;have HS:=znq (HS.znr.push hb hbel);have hlt2:=hb.lt;clear hb hbel
 go_wp2_with (refine ze 117 ((zf 16).map B) _ rfl rfl zj rfl ?_)
 intro w3 hb hbel;have HS:=znq (HS.znr.push hb hbel);have hlt3:=hb.lt;clear hb hbel
 generalize hbb:w.heap.size=bb at *
 generalize w1.heap.size=bk at *
 generalize w2.heap.size=br at *
 have HBB:=znq hbb
 clear hbb
 go_wp2_with fail
 refine zn [0,1,2,3,4] (by kernel_rfl) (by kernel_rfl) ?_
 rintro w4 rfl
 refine mqR ?_
 refine zi rfl rfl (by rfl) (fun K hK=>?_)
 go_simp
 refine (j1 _ _ 16 16 16 16 a b _ HLA.znr HLB.znr (by omega) (by omega) (HS.znr.drew.get 2 rfl).lies (HS.znr.drew.get 1 rfl).lies).mono ?_
 rintro e w5 ⟨v5,rfl,hown5,hbel5⟩
 obtain ⟨ao5,cap5,rfl,_,_,hl5⟩:=zw hown5
 have HS:=znq (HS.znr.drew.later hbel5)
 have HL5:=znq hl5
 clear hown5 hl5
 simp only [id]
 go_simp
 refine hK _ _ hbel5 ?_
 clear hK K hbel5
 refine zi rfl rfl (by rfl) (fun K hK=>?_)
 go_simp
 refine (yQ ao5 (min 16 16) cap5 (xorL a b) _ (by rw [xorL_length,HLA.znr,HLB.znr]) HL5.znr).mono ?_
 rintro e w6 ⟨rfl,hbel6⟩
 have HS:=znq (HS.znr.later hbel6)
 rw [HBX.znr]
 go_simp
 refine hK _ _ hbel6 ?_
 clear hK K hbel6
 refine zp rfl rfl (by rfl) (fun K hK=>?_)
 refine (HS.znr.get 0 rfl).opstore rfl rfl rfl zc (by rw [List.length_map];exact zd 16) (by rw [List.length_map];exact zB _ _) (zg _) (fun w7 hb7 ho7=>hK _ _ ?_)
 clear hK K
 have hbel7:=zk HS.znr.bel ho7 (by omega)
 go_simp
 refine zo ?_
 go_wp2
 refine hb7.result rfl rfl rfl zc (by rw [List.length_map];exact zB _ _) ⟨rfl,?_⟩
 rw [HBB.znr]
 exact hbel7
structure yB (n:Nat) (w:World) (ao:Option Addr) (ks:List (List UInt8)):Prop where
 each:∀ k∈ks,k.length=n
 lies:zr w ao ((ks.flatten).map B)
theorem yB.below {n:Nat} {w w':World} {ao:Option Addr} {ks:List (List UInt8)} (h:yB n w ao ks) (hb:Below w.heap.size w w'):yB n w' ao ks:=⟨h.each,h.lies.below hb⟩
theorem yB.range {n:Nat} {w:World} {ao:Option Addr} {ks:List (List UInt8)} (h:yB n w ao ks) (hn:0 < n) {i:Nat} {k:List UInt8} (hi:ks[i]? = some k):∃ b off,ao=some ⟨b,off,none⟩∧b < w.heap.size∧w.rangeAt b (off+i*n) (k.map B):=by
 have hk:=h.each k (List.mem_of_getElem? hi)
 have hat:∀ j v,(k.map B)[j]? = some v→((ks.flatten).map B)[n*i+j]? = some v:=fun j v hv=>by
  rw [List.getElem?_map] at hv ⊢
  have hj:j < n:=by
   rcases Nat.lt_or_ge j n with h | h
   ·exact h
   ·rw [List.getElem?_eq_none (by omega)] at hv;cases hv
  rw [ZC n ks i j k h.each hi hj]
  exact hv
 have h0:(k.map B)[0]? = some (B (at8 k 0)):=zU (at8_get (by omega))
 obtain ⟨b,off,rfl,hc⟩:=h.lies _ _ (hat 0 _ h0)
 refine ⟨b,off,rfl,block_lt_of_cell hc,fun j v hv=>?_⟩
 obtain ⟨b',off',e,hc'⟩:=h.lies _ _ (hat j v hv)
 cases e
 rw [show off+i*n+j=off+(n*i+j) by rw [Nat.mul_comm i n];omega]
 exact hc'
theorem zgs (ao:Option Addr) (cap:Nat) (ks:List (List UInt8)) (w:World) (hn:ks.length=4) (hk:yB 4 w ao ks) :
  Calls Tryz.prog 154 #[.slice ao 4 cap] w fun e w'=>e=.returned (.agg ((ks.flatten).map B).toArray)∧Below w.heap.size w w':=by
 have hfl:ks.flatten.length=16:=by
  match ks,hn with
  | [a,b,c,d],_=>simp [hk.each a (by simp),hk.each b (by simp),hk.each c (by simp),hk.each d (by simp)]
 have HFL:=znq hfl
 have HN:=znq hn
 have HK:=znq hk
 have HS:=znq (St.start w)
 clear hn hk hfl
 go_enter Tryz.func154,Tryz.ntmps154
 go_wp2_with (refine ze 117 ((zf 16).map B) _ rfl rfl zj rfl ?_)
 intro w1 hb hbel;have HS:=znq (HS.znr.push hb hbel);have hlt1:=hb.lt;clear hb hbel
 go_wp2_with (refine ze 117 ((zf 16).map B) _ rfl rfl zj rfl ?_)
 intro w2 hb hbel;have HS:=znq (HS.znr.push hb hbel);have hlt2:=hb.lt;clear hb hbel
 generalize hbb:w.heap.size=br at *
 generalize w1.heap.size=bo at *
 have HBB:=znq hbb
 clear hbb
 go_wp2
 go_loopw [8] (fun c wr=>∃ (i:Nat) (l:List UInt8),i≤4∧c=.int .i64 i∧yg (fun j=>at8 ks.flatten j) 16 (4*i) l∧St w br wr [(bo,l.map B,117),(br,(zf 16).map B,117)]) (fun c _=>4 - (intOf c).toNat)
 case atStart=>exact ⟨0,zf 16,by omega,rfl,yg.zero (zd _),HS.znr⟩
 case round =>
  clear HS
  obtain ⟨i,l,hi,rfl,hF,hs⟩:=hrel
  have HF:=znq hF
  have HS:=znq hs
  clear hF hs
  by_cases hlt:i < 4
  ·obtain ⟨k,hki⟩:∃ k,ks[i]? = some k:=⟨ks[i]'(by rw [HN.znr];exact hlt),by simp [HN.znr,hlt]⟩
   have hk4:=HK.znr.each k (List.mem_of_getElem? hki)
   have HKL:=znq (show (k.map B).length=4 by rw [List.length_map];exact hk4)
   obtain ⟨kb,koff,rfl,hkb,hrg⟩:=HK.znr.range (by omega) hki
   have HRG:=znq (ke hrg HS.znr.bel (by rw [← HBB.znr];exact hkb))
   have HCS:=znq (show ∀ j,j < 4→k[j]? = some (at8 ks.flatten (4*i+j)) from fun j hj=>by
    rw [← ZC 4 ks i j k HK.znr.each hki hj]
    exact at8_get (by rw [HFL.znr];omega))
   clear hrg hki
   go_wp2_with (first | (refine wpList_load_mid rfl 221 (.tmp 11) rfl kb (koff+i*4) rfl _ _ HRG.znr Tryz.underlying221 rfl (by rw [HKL.znr];exact yA.2) ?_) | (refine ze 221 ((zf 4).map B) _ rfl rfl jD rfl ?_))
   intro w3 hb3 hbel3
   have hbl:=HS.znr.ne _ (List.mem_of_getElem? (i:=0) rfl)
   simp only at hbl
   have HS:=znq (HS.znr.push hb3 hbel3)
   clear hb3 hbel3
   generalize wr.heap.size=bw at *
   go_wp2_with (refine (HS.znr.get 0 rfl).wstore rfl rfl rfl rfl yA (by rw [List.length_map];exact zd 4) HKL.znr (zg _) ?_)
   intro w4 hb4 ho4
   have HS:=znq (HS.znr.change 0 hb4 ho4 (by omega) (by simp;omega))
   clear hb4 ho4
   have hsl:=fun (w':World)=>yY (P:=Tryz.prog) w' 117 5 16 Tryz.underlying117 zl bo 0 (4*i) (4*(i:Int)) rfl (by omega)
   rw [Nat.zero_add] at hsl
   go_wp2_with fail
   refine zn [0,1,2,3,4] (by kernel_rfl) (by kernel_rfl) ?_
   rintro w11 rfl
   refine mqR ?_
   refine zp rfl rfl (by rfl) (fun K hK=>?_)
   refine (HS.znr.drew.get 1 rfl).opcopy (4*i) (k.map B) rfl rfl rfl Tryz.underlying22 zl (fun _=>rfl) (HS.znr.drew.get 0 rfl).lies (by rw [HKL.znr];exact (Nat.min_eq_left (by omega)).symm) (by rw [List.length_map,List.length_map,hk4,HF.znr.1];omega) (zg _) (fun w12 hb12 ho12=>hK _ _ ?_)
   clear hK K hsl
   rw [xV] at hb12
   have hF12:=HF.znr.splice (m:=4) (cs:=k) (by omega) hk4 HCS.znr
   have HF:=znq (show yg (fun j=>at8 ks.flatten j) 16 (4*(i+1)) (splice l (4*i) k) from hF12)
   have hs12:=HS.znr.drew.change 1 hb12 ho12 (by omega) (by simp;omega)
   have HS:=znq (show St w br w12 [(bo,(splice l (4*i) k).map B,117),(br,(zf 16).map B,117)] from ⟨hs12.base_le,hs12.bel,fun e he=>hs12.all e (List.mem_cons_of_mem _ he)⟩)
   clear hb12 ho12 hF12 hs12
   go_simp
   refine zo ?_
   go_wp2
   go_roundw
   case rel=>exact ⟨i+1,_,by omega,rfl,HF.znr,HS.znr⟩
   case measure=>simp [intOf];omega
  ·obtain rfl:i=4:=by omega
   have he:l=ks.flatten:=by
    have hl:=HF.znr.1
    apply List.ext_getElem?
    intro j
    by_cases hj:j < 16
    ·rw [HF.znr.2 j hj];exact (at8_get (by rw [HFL.znr];exact hj)).symm
    ·rw [List.getElem?_eq_none (by omega),List.getElem?_eq_none (by rw [HFL.znr];omega)]
   have HE:=znq he
   have HL:=znq (show (l.map B).length=16 by rw [List.length_map];exact HF.znr.1)
   clear he
   go_wp2_with (first | (refine (HS.znr.get 0 rfl).wload rfl rfl rfl zc HL.znr ?_) | (refine (HS.znr.get 1 rfl).wstore rfl rfl rfl rfl zc (by rw [List.length_map];exact zd 16) HL.znr (zg _) ?_))
   intro w9 hb9 ho9
   have hbel9:=zk HS.znr.bel ho9 (by omega)
   go_wp2
   refine hb9.result rfl rfl rfl zc HL.znr ⟨by rw [HE.znr],?_⟩
   rw [HBB.znr]
   exact hbel9
end Go.Proofs.YtjaioajjfiaheaaGreatDoor
namespace Go.Proofs.YtjaioajjfiaheaaGreatDoor
open Go.RowKit Go.Mem Go.Ops Go.Cells Go.Oct Go.Gf Go.Trn Go.Aes
attribute [local irreducible] zE zN zO zM
def Zj (ao:Option Addr) (cap lo size:Nat):Option Addr:=if cap=lo then ao else ao.map (·.add (lo*size))
theorem zbi {P:Program} (w:World) (t e:TypeId) (size:Nat) (ht:P.underlying t=some (.slice e)) (hs:(P.info? e).map (·.size)=some size) (ao:Option Addr) (len cap lo hi:Nat) (i j:Int) (hi':i=lo) (hj:j=hi) (h1:lo≤hi) (h2:hi≤cap) :
  (Instr.slice t (.slice ao len cap) (some (.int .i64 i)) (some (.int .i64 j)) none).run P w=.ok (.slice (Zj ao cap lo size) (hi - lo) (cap - lo)) w:=by
 subst hi';subst hj
 cases hq:P.info? e with
 | none=>rw [hq] at hs;cases hs
 | some x =>
  have hx:x.size=size:=by rw [hq] at hs;simpa using hs
  simp [Instr.slice,Instr.sliceBounds,Instr.sliceBound,run_underlying ht,sizeOf,typeInfo,hq,hx,asIntOf,h1,h2,Zj]
theorem XZ (n:Nat):∀ (ks:List (List UInt8)) (lo:Nat),(∀ k∈ks,k.length=n)→(ks.drop lo).flatten=ks.flatten.drop (lo*n)
 | [],lo,_=>by simp
 | x::r,0,_=>by simp
 | x::r,lo+1,h=>by
  have hx:=h x (by simp)
  rw [List.drop_succ_cons,XZ n r lo (fun k hk=>h k (List.mem_cons_of_mem _ hk)),List.flatten_cons,List.drop_append,hx,show x.drop ((lo+1)*n)=[] from List.drop_eq_nil_of_le (by rw [hx,Nat.add_mul];omega),List.nil_append,Nat.add_mul,Nat.one_mul,Nat.add_sub_cancel]
theorem X0 (n:Nat):∀ (ks:List (List UInt8)) (m:Nat),(∀ k∈ks,k.length=n)→(ks.take m).flatten=ks.flatten.take (m*n)
 | [],m,_=>by simp
 | x::r,0,_=>by simp
 | x::r,m+1,h=>by
  rw [List.take_succ_cons,List.flatten_cons,X0 n r m (fun k hk=>h k (List.mem_cons_of_mem _ hk)),List.flatten_cons,List.take_append,h x (by simp),show x.take ((m+1)*n)=x from List.take_of_length_le (by rw [h x (by simp),Nat.add_mul];omega),Nat.add_mul,Nat.one_mul,Nat.add_sub_cancel]
theorem k6 (n:Nat):∀ (ks:List (List UInt8)),(∀ k∈ks,k.length=n)→ks.flatten.length=ks.length*n
 | [],_=>by simp
 | x::r,h=>by
  rw [List.flatten_cons,List.length_append,h x (by simp),k6 n r (fun k hk=>h k (List.mem_cons_of_mem _ hk)),List.length_cons,Nat.add_mul,Nat.one_mul,Nat.add_comm]
theorem yB.cut {n:Nat} {w:World} {ao:Option Addr} {ks:List (List UInt8)} (h:yB n w ao ks) {cap:Nat} (hc:ks.length≤cap) (lo m:Nat):yB n w (Zj ao cap lo n) ((ks.drop lo).take m):=by
 have hd:∀ k∈ks.drop lo,k.length=n:=fun k hk=>h.each k (List.mem_of_mem_drop hk)
 refine ⟨fun k hk=>hd k (List.mem_of_mem_take hk),?_⟩
 rw [X0 n _ m hd,XZ n _ lo h.each]
 unfold Zj
 by_cases e:cap=lo
 ·rw [if_pos e,show ks.flatten.drop (lo*n)=[] from List.drop_eq_nil_of_le (by rw [k6 n ks h.each];exact Nat.mul_le_mul_right n (by omega))]
  simp only [List.take_nil,List.map_nil]
  exact zr.nil _ _
 ·rw [if_neg e]
  have:=(h.lies.drop (lo*n)).take (m*n)
  rwa [← List.map_drop,← List.map_take] at this
theorem zbj:(Tryz.prog.info? 117).map (·.size)=some 16:=by kernel_rfl
structure qV (w:World) (kp q p:Nat) (ks:List (List UInt8)) (kb koff n cap:Nat):Prop where
 tab:Tab w q p
 len:ks.length=n
 two:2≤n
 capLe:n≤cap
 most:n≤1000
 rows:yB 16 w (some ⟨kb,koff,none⟩) ks
 blk:Blk w kp [.pointer (some ⟨q,0,none⟩),.slice (some ⟨kb,koff,none⟩) n cap] 227
theorem qV.later {w w':World} {kp q p:Nat} {ks:List (List UInt8)} {kb koff n cap:Nat} (h:qV w kp q p ks kb koff n cap) (hb:Below w.heap.size w w'):qV w' kp q p ks kb koff n cap :=
 ⟨h.tab.below hb (Nat.le_refl _),h.len,h.two,h.capLe,h.most,h.rows.below hb,h.blk.below hb h.blk.lt⟩
theorem qV.only {w w':World} {kp q p:Nat} {ks:List (List UInt8)} {kb koff n cap c:Nat} (h:qV w kp q p ks kb koff n cap) (ho:Only c w w') (h1:kp≠c) (h2:q≠c) (h3:p≠c) (h4:kb≠c):qV w' kp q p ks kb koff n cap:=by
 refine ⟨h.tab.only ho h3 h2,h.len,h.two,h.capLe,h.most,⟨h.rows.each,fun j u hu=>?_⟩,h.blk.only ho h1⟩
 obtain ⟨b,off,e,hc⟩:=h.rows.lies j u hu
 cases e
 refine ⟨kb,koff,rfl,?_⟩
 have hb:=ho.block kb h4
 simp only [World.cell?] at hc ⊢
 rw [hb]
 exact hc
theorem qV.drew {w:World} {kp q p:Nat} {ks:List (List UInt8)} {kb koff n cap:Nat} (h:qV w kp q p ks kb koff n cap):qV w.drew kp q p ks kb koff n cap:=h.later (Below.refl _ _).drew
theorem qV.key16 {w:World} {kp q p:Nat} {ks:List (List UInt8)} {kb koff n cap:Nat} (h:qV w kp q p ks kb koff n cap) (i:Nat) (hi:i < n):(key ks i).length=16:=h.rows.each _ (List.mem_of_getElem? (kB (by rw [h.len];exact hi)))
theorem qV.range {w:World} {kp q p:Nat} {ks:List (List UInt8)} {kb koff n cap:Nat} (h:qV w kp q p ks kb koff n cap) (i:Nat) (hi:i < n):w.rangeAt kb (koff+i*16) ((key ks i).map B)∧kb < w.heap.size:=by
 obtain ⟨b,off,e,hb,hr⟩:=h.rows.range (by omega) (kB (i:=i) (by rw [h.len];exact hi))
 cases e
 exact ⟨hr,hb⟩
theorem K7 (kp q p:Nat) (ks:List (List UInt8)) (kb koff n cap:Nat) (b:List UInt8) (w:World) (hk:qV w kp q p ks kb koff n cap) (hb:b.length=16) :
  Calls Tryz.prog 131 #[.pointer (some ⟨kp,0,none⟩),.agg (b.map B).toArray] w fun e w'=>e=.returned (.agg ((enc ks b).map B).toArray)∧Below w.heap.size w w':=by
 have HLB:=znq (show (b.map B).length=16 by rw [List.length_map];exact hb)
 have HLB2:=znq hb
 have HS:=znq (St.start w)
 have hkl:=hk.blk.lt
 have hkq:=hk.tab.tab.lt
 have hkp:=hk.tab.boxes.lt
 have hkk:=(hk.range 0 (by have:=hk.two;omega)).2
 have hn2:=hk.two
 have hnc:=hk.capLe
 have hmo:=hk.most
 have HK:=znq hk
 have HE:=znq (show enc ks b=last (rounds (both b (key ks 0)) ((ks.drop 1).take (n - 2))) (key ks (n - 1)) by rw [← hk.len];rfl)
 clear hb hk
 go_enter Tryz.func131,Tryz.ntmps131
 go_wp2_with (refine zh 117 _ (b.map B) _ rfl rfl rfl rfl ?_)
 intro w1 hb hbel;have HS:=znq (HS.znr.push hb hbel);have HK:=znq (HK.znr.later hbel);have hlt1:=hb.lt;clear hb hbel
 go_wp2_with (refine ze 117 ((zf 16).map B) _ rfl rfl zj rfl ?_)
 intro w2 hb hbel;have HS:=znq (HS.znr.push hb hbel);have HK:=znq (HK.znr.later hbel);have hlt2:=hb.lt;clear hb hbel
 generalize hbb:w.heap.size=bb at *
 generalize w1.heap.size=br at *
 have HBB:=znq hbb
 clear hbb
 have hc0:=fun (x:zG w2.drew)=>(HK.znr.drew.later x.later).blk.cell 0 _ rfl
 have hc1:=fun (x:zG w2.drew)=>(HK.znr.drew.later x.later).blk.cell 1 _ rfl
 have hd1:=HK.znr.blk.cell 1 _ rfl
 have hsl:=fun (w':World)=>zbi (P:=Tryz.prog) w' 171 117 16 Tryz.underlying171 zbj (some ⟨kb,koff,none⟩) n cap 1 (n - 1) 1 ((n:Int) - 1) rfl (by omega) (by omega) (by omega)
 go_wp2_with fail
 refine zn [0,1,2,3,4,5,6,7,8,9,10,12,13,14,15,16,17,11,18,19] (by kernel_rfl) (by kernel_rfl) ?_
 rintro w4 rfl
 iterate 4 refine m1R ?_
 refine zt (HS.znr.drew.get 1 rfl).range (HS.znr.drew.get 1 rfl).lt zc HLB.znr rfl rfl rfl rfl (fun K hK=>?_)
 go_simp;refine hK _ ?_;clear hK K
 iterate 5 refine m1R ?_
 have hr0:=(HK.znr.drew.range 0 (by omega)).1
 rw [Nat.zero_mul,Nat.add_zero] at hr0
 refine zt hr0 (HK.znr.drew.range 0 (by omega)).2 zc (by rw [List.length_map];exact HK.znr.key16 0 (by omega)) rfl rfl rfl rfl (fun K hK=>?_)
 go_simp;refine hK _ ?_;clear hK K
 iterate 6 refine m1R ?_
 refine zi rfl rfl (by rfl) (fun K hK=>?_)
 go_simp
 refine (zbh b (key ks 0) _ HLB2.znr (HK.znr.key16 0 (by omega))).mono ?_
 rintro e w5 ⟨rfl,hbel⟩
 have HS:=znq (HS.znr.drew.later hbel)
 have HK:=znq (HK.znr.drew.later hbel)
 go_simp
 refine hK _ _ hbel ?_
 clear hK K hbel hc0 hc1 hsl hr0 hd1
 refine zi rfl rfl (by rfl) (fun K hK=>?_)
 go_simp
 have hcut:=HK.znr.rows.cut (cap:=cap) (by rw [HK.znr.len];exact hnc) 1 (n - 2)
 refine (QI q p (both b (key ks 0)) (Zj (some ⟨kb,koff,none⟩) cap 1 16) (n - 1 - 1) (cap - 1) ((ks.drop 1).take (n - 2)) _ HK.znr.tab (zB _ _) (by rw [List.length_take,List.length_drop,HK.znr.len];omega) (by omega) ⟨hcut.each,hcut.lies⟩).mono ?_
 clear hcut
 have hrl:=qG ((ks.drop 1).take (n - 2)) (both b (key ks 0)) (zB _ _)
 have HRL:=znq (show ((rounds (both b (key ks 0)) ((ks.drop 1).take (n - 2))).map B).length=16 by rw [List.length_map];exact hrl)
 rintro e w6 ⟨rfl,hbel⟩
 generalize rounds (both b (key ks 0)) ((ks.drop 1).take (n - 2))=x at *
 have HS:=znq (HS.znr.later hbel)
 have HK:=znq (HK.znr.later hbel)
 go_simp
 refine hK _ _ hbel ?_
 clear hK K hbel
 refine zp rfl rfl (by rfl) (fun K hK=>?_)
 refine (HS.znr.get 1 rfl).opstore rfl rfl rfl zc HLB.znr HRL.znr (zg _) (fun w7 hb7 ho7=>hK _ _ ?_)
 clear hK K
 have HK:=znq (HK.znr.only ho7 (by omega) (by omega) (by omega) (by omega))
 have HS:=znq (HS.znr.change 1 hb7 ho7 (by omega) (by simp;omega))
 clear hb7 ho7
 go_simp
 refine zo ?_
 have hc0:=fun (x:zG w7.drew)=>(HK.znr.drew.later x.later).blk.cell 0 _ rfl
 have hc1:=fun (x:zG w7.drew)=>(HK.znr.drew.later x.later).blk.cell 1 _ rfl
 go_wp2_with fail
 refine zn [0,1,2,3,4,5,6,7,8,9,10,11,12,13] (by kernel_rfl) (by kernel_rfl) ?_
 rintro w8 rfl
 iterate 4 refine m1R ?_
 refine zt (HS.znr.drew.get 1 rfl).range (HS.znr.drew.get 1 rfl).lt zc HRL.znr rfl rfl rfl rfl (fun K hK=>?_)
 go_simp;refine hK _ ?_;clear hK K
 iterate 6 refine m1R ?_
 refine zt (HK.znr.drew.range (n - 1) (by omega)).1 (HK.znr.drew.range (n - 1) (by omega)).2 zc (by rw [List.length_map];exact HK.znr.key16 (n - 1) (by omega)) rfl rfl rfl rfl (fun K hK=>?_)
 go_simp;refine hK _ ?_;clear hK K
 refine zi rfl rfl (by rfl) (fun K hK=>?_)
 go_simp
 refine (zl5 q p x (key ks (n - 1)) _ HK.znr.tab.drew hrl (HK.znr.key16 (n - 1) (by omega))).mono ?_
 rintro e w9 ⟨rfl,hbel⟩
 rw [← HE.znr]
 have HS:=znq (HS.znr.drew.later hbel)
 go_simp
 refine hK _ _ hbel ?_
 clear hK K hbel hc0 hc1
 refine zp rfl rfl (by rfl) (fun K hK=>?_)
 refine (HS.znr.get 0 rfl).opstore rfl rfl rfl zc (by rw [List.length_map];exact zd 16) (by rw [List.length_map];exact xJ _ _) (zg _) (fun w10 hb10 ho10=>hK _ _ ?_)
 clear hK K
 have hbel10:=zk HS.znr.bel ho10 (by omega)
 go_simp
 refine zo ?_
 go_wp2
 refine hb10.result rfl rfl rfl zc (by rw [List.length_map];exact xJ _ _) ⟨rfl,?_⟩
 rw [HBB.znr]
 exact hbel10
theorem zjk (kp q p:Nat) (ks:List (List UInt8)) (kb koff n cap:Nat) (b:List UInt8) (w:World) (hk:qV w kp q p ks kb koff n cap) (hb:b.length=16) :
  Calls Tryz.prog 214 #[.pointer (some ⟨kp,0,none⟩),.agg (b.map B).toArray] w fun e w'=>e=.returned (.agg ((dec ks b).map B).toArray)∧Below w.heap.size w w':=by
 have HLB:=znq (show (b.map B).length=16 by rw [List.length_map];exact hb)
 have HLB2:=znq hb
 have HS:=znq (St.start w)
 have hkl:=hk.blk.lt
 have hkq:=hk.tab.tab.lt
 have hkp:=hk.tab.boxes.lt
 have hkk:=(hk.range 0 (by have:=hk.two;omega)).2
 have hn2:=hk.two
 have hnc:=hk.capLe
 have hmo:=hk.most
 have HK:=znq hk
 have HE:=znq (show dec ks b=both (Zf ks (n - 1) (jZ b (key ks (n - 1)))) (key ks 0) by rw [← hk.len];rfl)
 clear hb hk
 go_enter Tryz.func214,Tryz.ntmps214
 go_wp2_with (refine zh 117 _ (b.map B) _ rfl rfl rfl rfl ?_)
 intro w1 hb hbel;have HS:=znq (HS.znr.push hb hbel);have HK:=znq (HK.znr.later hbel);have hlt1:=hb.lt;clear hb hbel
 go_wp2_with (refine ze 117 ((zf 16).map B) _ rfl rfl zj rfl ?_)
 intro w2 hb hbel;have HS:=znq (HS.znr.push hb hbel);have HK:=znq (HK.znr.later hbel);have hlt2:=hb.lt;clear hb hbel
 generalize hbb:w.heap.size=bb at *
 generalize w1.heap.size=br at *
 have HBB:=znq hbb
 clear hbb
 have hc0:=fun (x:zG w2.drew)=>(HK.znr.drew.later x.later).blk.cell 0 _ rfl
 have hc1:=fun (x:zG w2.drew)=>(HK.znr.drew.later x.later).blk.cell 1 _ rfl
 have hd1:=HK.znr.blk.cell 1 _ rfl
 have hnn:(n:Int) - 1=((n - 1:Nat):Int):=by omega
 go_wp2_with fail
 refine zn [0,1,2,3,4,5,6,7,8,9,10,11,12,13] (by kernel_rfl) (by kernel_rfl) ?_
 rintro w4 rfl
 iterate 4 refine m1R ?_
 refine zt (HS.znr.drew.get 1 rfl).range (HS.znr.drew.get 1 rfl).lt zc HLB.znr rfl rfl rfl rfl (fun K hK=>?_)
 go_simp;refine hK _ ?_;clear hK K
 iterate 6 refine m1R ?_
 refine zt (HK.znr.drew.range (n - 1) (by omega)).1 (HK.znr.drew.range (n - 1) (by omega)).2 zc (by rw [List.length_map];exact HK.znr.key16 (n - 1) (by omega)) rfl rfl rfl rfl (fun K hK=>?_)
 go_simp;refine hK _ ?_;clear hK K
 refine zi rfl rfl (by rfl) (fun K hK=>?_)
 go_simp
 refine (zgr q p b (key ks (n - 1)) _ HK.znr.tab.drew HLB2.znr (HK.znr.key16 (n - 1) (by omega))).mono ?_
 rintro e w9 ⟨rfl,hbel⟩
 have HS:=znq (HS.znr.drew.later hbel)
 have HK:=znq (HK.znr.drew.later hbel)
 go_simp
 refine hK _ _ hbel ?_
 clear hK K hbel hc0 hc1 hd1
 refine zp rfl rfl (by rfl) (fun K hK=>?_)
 refine (HS.znr.get 1 rfl).opstore rfl rfl rfl zc HLB.znr (by rw [List.length_map];exact jC _ _) (zg _) (fun w7 hb7 ho7=>hK _ _ ?_)
 clear hK K
 have HK:=znq (HK.znr.only ho7 (by omega) (by omega) (by omega) (by omega))
 have HS:=znq (HS.znr.change 1 hb7 ho7 (by omega) (by simp;omega))
 clear hb7 ho7
 go_simp
 refine zo ?_
 go_wp2_with fail
 go_loopw [5] (fun c wr=>∃ (i:Nat) (x:List UInt8),1≤i∧i≤n - 1∧c=.int .i64 i∧x.length=16∧Zf ks i x=Zf ks (n - 1) (jZ b (key ks (n - 1)))∧qV wr kp q p ks kb koff n cap∧St w bb wr [(br,(zf 16).map B,117),(bb,x.map B,117)]) (fun c _=>(intOf c).toNat)
 case atStart=>exact ⟨n - 1,jZ b (key ks (n - 1)),by omega,by omega,by rw [← hnn],jC _ _,rfl,HK.znr,HS.znr⟩
 case round =>
  clear HS HK
  obtain ⟨i,x,hi1,hi2,rfl,hx,he,hk,hs⟩:=hrel
  have HX:=znq hx
  have HXL:=znq (show (x.map B).length=16 by rw [List.length_map];exact hx)
  have HD:=znq he
  have HK:=znq hk
  have HS:=znq hs
  clear hx he hk hs
  by_cases hlt:1 < i
  ·have hm:(i:Int) - 1=((i - 1:Nat):Int):=by omega
   have HD:=znq ((Xo ks i x hlt).symm.trans HD.znr)
   have hc0:=fun (x:zG wr.drew)=>(HK.znr.drew.later x.later).blk.cell 0 _ rfl
   have hc1:=fun (x:zG wr.drew)=>(HK.znr.drew.later x.later).blk.cell 1 _ rfl
   go_wp2_with fail
   refine zn [0,1,2,3,4,5,6,7,8,9,10,11,12,13] (by kernel_rfl) (by kernel_rfl) ?_
   rintro w4 rfl
   iterate 4 refine m1R ?_
   refine zt (HS.znr.drew.get 1 rfl).range (HS.znr.drew.get 1 rfl).lt zc HXL.znr rfl rfl rfl rfl (fun K hK=>?_)
   go_simp;refine hK _ ?_;clear hK K
   iterate 6 refine m1R ?_
   refine zt (HK.znr.drew.range (i - 1) (by omega)).1 (HK.znr.drew.range (i - 1) (by omega)).2 zc (by rw [List.length_map];exact HK.znr.key16 (i - 1) (by omega)) rfl rfl rfl rfl (fun K hK=>?_)
   go_simp;refine hK _ ?_;clear hK K
   refine zi rfl rfl (by rfl) (fun K hK=>?_)
   go_simp
   refine (zea q p x (key ks (i - 1)) _ HK.znr.tab.drew HX.znr (HK.znr.key16 (i - 1) (by omega))).mono ?_
   rintro e w9 ⟨rfl,hbel⟩
   have HS:=znq (HS.znr.drew.later hbel)
   have HK:=znq (HK.znr.drew.later hbel)
   go_simp
   refine hK _ _ hbel ?_
   clear hK K hbel hc0 hc1
   refine zp rfl rfl (by rfl) (fun K hK=>?_)
   refine (HS.znr.get 1 rfl).opstore rfl rfl rfl zc HXL.znr (by rw [List.length_map];exact kY _ _) (zg _) (fun w7 hb7 ho7=>hK _ _ ?_)
   clear hK K
   have HK:=znq (HK.znr.only ho7 (by omega) (by omega) (by omega) (by omega))
   have HS:=znq (HS.znr.change 1 hb7 ho7 (by omega) (by simp;omega))
   clear hb7 ho7
   go_simp
   refine zo ?_
   go_wp2
   go_roundw
   case rel=>exact ⟨i - 1,_,by omega,by omega,rfl,kY _ _,HD.znr,HK.znr,HS.znr⟩
   case measure=>simp [intOf];omega
  ·obtain rfl:i=1:=by omega
   have HE:=znq (show dec ks b=both x (key ks 0) by rw [HE.znr,← HD.znr];rfl)
   have hc1:=fun (x:zG wr.drew)=>(HK.znr.drew.later x.later).blk.cell 1 _ rfl
   go_wp2_with fail
   refine zn [0,1,2,3,4,5,6,7,8] (by kernel_rfl) (by kernel_rfl) ?_
   rintro w4 rfl
   refine zt (HS.znr.drew.get 1 rfl).range (HS.znr.drew.get 1 rfl).lt zc HXL.znr rfl rfl rfl rfl (fun K hK=>?_)
   go_simp;refine hK _ ?_;clear hK K
   iterate 5 refine m1R ?_
   have hr0:=(HK.znr.drew.range 0 (by omega)).1
   rw [Nat.zero_mul,Nat.add_zero] at hr0
   refine zt hr0 (HK.znr.drew.range 0 (by omega)).2 zc (by rw [List.length_map];exact HK.znr.key16 0 (by omega)) rfl rfl rfl rfl (fun K hK=>?_)
   go_simp;refine hK _ ?_;clear hK K
   refine zi rfl rfl (by rfl) (fun K hK=>?_)
   go_simp
   refine (zbh x (key ks 0) _ HX.znr (HK.znr.key16 0 (by omega))).mono ?_
   rintro e w9 ⟨rfl,hbel⟩
   rw [← HE.znr]
   have HS:=znq (HS.znr.drew.later hbel)
   go_simp
   refine hK _ _ hbel ?_
   clear hK K hbel hc1 hr0
   refine zp rfl rfl (by rfl) (fun K hK=>?_)
   refine (HS.znr.get 0 rfl).opstore rfl rfl rfl zc (by rw [List.length_map];exact zd 16) (by rw [List.length_map];exact kG _ _) (zg _) (fun w10 hb10 ho10=>hK _ _ ?_)
   clear hK K
   have hbel10:=zk HS.znr.bel ho10 (by omega)
   go_simp
   refine zo ?_
   go_wp2
   refine hb10.result rfl rfl rfl zc (by rw [List.length_map];exact kG _ _) ⟨rfl,?_⟩
   rw [HBB.znr]
   exact hbel10
end Go.Proofs.YtjaioajjfiaheaaGreatDoor
namespace Go.Mem
open Go.RowKit
section
variable {P:Program} {w:World}
theorem QJ (base:Nat) (t ty e:TypeId) (i:TypeInfo) (size:Nat) (ht:P.underlying t=some (.slice e)) (hi:P.info? e=some i)
  (v:Value) (n:Nat) (xs:List Value) (hown:w.ownsRow base e size v n xs) (ao:Option Addr) (c:Nat) :
  (Builtin.append_ #[t,t] ty #[v,.slice ao 0 c]).run P w=.ok v w:=by
 rcases hown.2 with ⟨rfl,rfl⟩ | ⟨g,cap,cur,rfl,_,_,hnc,_⟩
 ·cases ao <;> simp [Builtin.append_,run_underlying ht,sizeOf,typeInfo,hi,Builtin.lenOf,Builtin.firstCells,loadCells,loadCellsFrom]
 ·cases ao <;> simp [Builtin.append_,run_underlying ht,sizeOf,typeInfo,hi,Builtin.lenOf,Builtin.firstCells,hnc,storeCells,loadCells,loadCellsFrom]
theorem K8 (t ty:TypeId) (base:Nat) (e:TypeId) (i:TypeInfo) (z:Value) (bytes:Nat) (ht:P.underlying t=some (.slice e)) (hi:P.info? e=some i) (hz:i.zero=some z)
  (hsize:i.size=1) (hby:i.bytes=bytes) (hzs:z.cells.size=1)
  (v:Value) (n:Nat) (xs:List Value) (hown:w.ownsRow base e 1 v n xs)
  (ao:Option Addr) (m c:Nat) (news:List Value) (hl:news.length=m) (hlies:zr w ao news) (h1:∀ u∈news,u.oneCell'=true)
  (h63:n+m≤maxLen) (hbytes:(n+m)*bytes≤140737488355328) (hbase:base≤w.heap.size) :
  ∃ v' w',(Builtin.append_ #[t,t] ty #[v,.slice ao m c]).run P w=.ok v' w'∧w'.ownsRow base e 1 v' (n+m) (xs++news)∧w.grownBy w' v.ownBlock:=by
 by_cases hm:m=0
 ·subst hm
  obtain rfl:news=[]:=List.eq_nil_of_length_eq_zero hl
  exact ⟨v,w,QJ base t ty e i 1 ht hi v n xs hown ao c,by simpa using hown,World.grownBy.refl _ _⟩
 ·have hne:news≠[]:=by rintro rfl;simp at hl;omega
  obtain ⟨b,off,rfl,_,hc⟩:=hlies.at hne
  obtain ⟨g,cap,w',hr,ho,hg,_,_⟩:=run_append_lies w t ty base e i z 1 bytes ht hi hz hsize hby hzs (by decide) v n xs hown ⟨b,off,none⟩ m c news (by omega) hlies.news h1 (by omega) h63 hbytes hbase _ rfl
  exact ⟨_,w',hr,ho,hg⟩
theorem xX {o:Oper} {a:Act} {K:Act→World→Prop} {Q:Exit→Act→World→Prop} (s x:Operand) (t:TypeId)
  (ho:o.op=.call { callee:=.builtin .append,args:=#[s,x],argTypes:=#[t,t] })
  (base:Nat) (e:TypeId) (i:TypeInfo) (z:Value) (bytes:Nat) (ht:P.underlying t=some (.slice e)) (hi:P.info? e=some i) (hz:i.zero=some z)
  (hsize:i.size=1) (hby:i.bytes=bytes) (hzs:z.cells.size=1)
  (v:Value) (n:Nat) (xs:List Value) (hs:a.eval s=v) (hown:w.ownsRow base e 1 v n xs)
  (ao:Option Addr) (m c:Nat) (news:List Value) (hx:a.eval x=.slice ao m c) (hl:news.length=m) (hlies:zr w ao news) (h1:∀ u∈news,u.oneCell'=true)
  (h63:n+m≤maxLen) (hbytes:(n+m)*bytes≤140737488355328) (hbase:base≤w.heap.size)
  (h:∀ v' w',w'.ownsRow base e 1 v' (n+m) (xs++news)→w.grownBy w' v.ownBlock→K (a.put o.dst v') w'):o.wp P a w K Q:=by
 obtain ⟨v',w',hrun,h2,h3⟩:=K8 (P:=P) t o.type base e i z bytes ht hi hz hsize hby hzs v n xs hown ao m c news hl hlies h1 h63 hbytes hbase
 unfold Oper.wp
 simp [execOp,ho,resolve,invoke,builtin,hs,hx,hrun,Result.andThen]
 exact h _ _ h2 h3
theorem yD {ops:Array Oper} {rest:List Oper} {o:Oper} {a:Act} {Q:Exit→Act→World→Prop} (hgd:o.guard=none) (s x:Operand) (t:TypeId)
  (ho:o.op=.call { callee:=.builtin .append,args:=#[s,x],argTypes:=#[t,t] })
  (base:Nat) (e:TypeId) (i:TypeInfo) (z:Value) (bytes:Nat) (ht:P.underlying t=some (.slice e)) (hi:P.info? e=some i) (hz:i.zero=some z)
  (hsize:i.size=1) (hby:i.bytes=bytes) (hzs:z.cells.size=1)
  (v:Value) (n:Nat) (xs:List Value) (hs:a.eval s=v) (hown:w.ownsRow base e 1 v n xs)
  (ao:Option Addr) (m c:Nat) (news:List Value) (hx:a.eval x=.slice ao m c) (hl:news.length=m) (hlies:zr w ao news) (h1:∀ u∈news,u.oneCell'=true)
  (h63:n+m≤maxLen) (hbytes:(n+m)*bytes≤140737488355328) (hbase:base≤w.heap.size)
  (h:∀ v' w',w'.ownsRow base e 1 v' (n+m) (xs++news)→w.grownBy w' v.ownBlock→wpList P ops Q rest (a.put o.dst v') w'):wpList P ops Q (o::rest) a w :=
 wpList_plain hgd fun _ hK=>xX s x t ho base e i z bytes ht hi hz hsize hby hzs v n xs hs hown ao m c news hx hl hlies h1 h63 hbytes hbase fun v' w' h2 h3=>hK _ _ (h v' w' h2 h3)
theorem z8 {B:Nat} {a w':World} {base:Nat} {e:TypeId} {size:Nat} {v:Value} {n:Nat} {xs:List Value} (h:Below B a w) (hown:w.ownsRow base e size v n xs) (hg:w.grownBy w' v.ownBlock) (hb:B≤base) (hB:B≤w.heap.size):Below B a w' :=
 h.grown hg hB (fun k hk=>Nat.le_trans hb (hown.lt k hk).1)
theorem zm {w w':World} {base:Nat} {e:TypeId} {size:Nat} {v:Value} {n:Nat} {xs:List Value} (h:w.ownsRow base e size v n xs) (hb:Below w.heap.size w w'):w'.ownsRow base e size v n xs:=by
 refine ⟨h.1,h.2.imp id ?_⟩
 rintro ⟨g,cap,cur,hv,hg,hh,rest⟩
 exact ⟨g,cap,cur,hv,hg,by rw [hb.block g (Array.getElem?_eq_some_iff.1 hh).1];exact hh,rest⟩
theorem vL (w:World) (base:Nat) (e:TypeId) (size:Nat):w.ownsRow base e size (.slice none 0 0) 0 []:=⟨by simp,.inl ⟨rfl,rfl⟩⟩
theorem j9 (xs:List UInt8):∀ u∈xs.map B,u.oneCell'=true:=by
 intro u hu
 simp only [List.mem_map] at hu
 obtain ⟨x,_,rfl⟩:=hu
 rfl
end
end Go.Mem
namespace Go.Cells
open Go.RowKit Go.Mem Go.Ops
theorem zbk:∀ (cs:List Value) (k off:Nat) (A:List Value),off+k+cs.length≤A.length →
  (cs.zipIdx k).foldl (fun (acc:Array Value) (p:Value×Nat)=>acc.setIfInBounds (off+p.2) p.1) A.toArray=(A.take (off+k)++cs++A.drop (off+k+cs.length)).toArray
 | [],k,off,A,_=>by simp
 | c::r,k,off,A,h=>by
  rw [List.length_cons] at h
  rw [List.zipIdx_cons,List.foldl_cons]
  simp only [List.setIfInBounds_toArray]
  rw [zbk r (k+1) off (A.set (off+k) c) (by rw [List.length_set];omega)]
  congr 1
  rw [List.drop_set_of_lt (by omega),List.length_cons,show off+(k+1)+r.length=off+k+(r.length+1) by omega]
  congr 1
  rw [show off+(k+1)=(off+k)+1 by omega,List.take_add_one,List.take_set_of_le (by omega)]
  simp [show off+k < A.length by omega]
theorem V3 (n:Nat):∀ (vs:List (List Value)) (k:Nat) (A:List Value),(∀ v∈vs,v.length=n)→(k+vs.length)*n≤A.length →
  Instr.fill (fun i=>some (i*n,n)) A.toArray ((vs.zipIdx k).map fun p=>(p.2,Value.agg p.1.toArray))=some (A.take (k*n)++vs.flatten++A.drop ((k+vs.length)*n)).toArray
 | [],k,A,_,_=>by simp [Instr.fill]
 | v::r,k,A,hv,h=>by
  have hn:=hv v (by simp)
  have hle:k*n+n≤A.length:=by
   have:(k+(v::r).length)*n=k*n+n+r.length*n:=by rw [List.length_cons,Nat.add_mul,Nat.add_mul,Nat.one_mul];omega
   omega
  rw [List.zipIdx_cons,List.map_cons]
  unfold Instr.fill
  have e:(Value.agg v.toArray).cells=v.toArray:=rfl
  simp only [e,List.size_toArray,hn]
  rw [if_neg (by simp;omega)]
  have hf:=zbk v 0 (k*n) A (by omega)
  simp only [Nat.add_zero] at hf
  have hz:v.toArray.zipIdx.foldl (fun (cs:Array Value) (p:Value×Nat)=>cs.setIfInBounds (k*n+p.2) p.1) A.toArray=(A.take (k*n)++v++A.drop (k*n+v.length)).toArray:=by
   rw [← hf]
   simp
  rw [hz,V3 n r (k+1) _ (fun u hu=>hv u (List.mem_cons_of_mem _ hu)) (by
   rw [List.length_append,List.length_append,List.length_take,List.length_drop,hn,Nat.min_eq_left (by omega)]
   have:(k+(v::r).length)*n=(k+1+r.length)*n:=by rw [List.length_cons];congr 1;omega
   omega)]
  congr 2
  have h1:(k+1)*n=k*n+n:=by rw [Nat.add_mul,Nat.one_mul]
  have h2:(k+(v::r).length)*n=k*n+n+r.length*n:=by rw [List.length_cons,Nat.add_mul,Nat.add_mul,Nat.one_mul];omega
  have h3:(k+1+r.length)*n=k*n+n+r.length*n:=by rw [Nat.add_mul,h1]
  have hl:(A.take (k*n)++v).length=k*n+n:=by rw [List.length_append,List.length_take,hn,Nat.min_eq_left (by omega)]
  rw [h1,h2,h3,List.take_append,List.drop_append,hl,List.take_of_length_le (by omega),Nat.sub_self,List.take_zero,List.append_nil,List.drop_eq_nil_of_le (by omega),List.nil_append,List.drop_drop,hn,List.flatten_cons]
  simp only [List.append_assoc]
  congr 3
  congr 1
  omega
theorem wL {P:Program} (w:World) (t e:TypeId) (n m:Nat) (z:Value) (vs:List (List Value)) (parts:Array (Nat×Value)) (ht:P.underlying t=some (.slice e)) (hs:(P.info? e).map (fun i=>(i.zero,i.size))=some (some z,n)) (hz:z.cells.size=n)
  (hn:0 < n) (hm:vs.length=m) (hm0:0 < m) (hb:m*n≤16777216) (hv:∀ v∈vs,v.length=n) (hp:parts=((vs.zipIdx 0).map fun p=>(p.2,Value.agg p.1.toArray)).toArray) :
  (Instr.buildSlice t m parts).run P w=.ok (.slice (some ⟨w.heap.size,0,none⟩) m m) (w.alloc (.cells vs.flatten.toArray e)):=by
 cases hq:P.info? e with
 | none=>rw [hq] at hs;cases hs
 | some x =>
  rw [hq] at hs
  simp only [Option.map_some,Option.some.injEq,Prod.mk.injEq] at hs
  obtain ⟨h1,h2⟩:=hs
  have h0:m*n≠0:=Nat.mul_ne_zero (by omega) (by omega)
  have hf:=V3 n vs 0 ((List.range (m*n)).map (z.cells[· % z.cells.size]!)) hv (by simp [hm])
  have hA:((Array.range (m*n)).map (z.cells[· % z.cells.size]!))=((List.range (m*n)).map (z.cells[· % z.cells.size]!)).toArray:=by
   rw [← List.toArray_range,List.map_toArray]
  have hlen:((List.range (m*n)).map (z.cells[· % z.cells.size]!)).length=m*n:=by simp
  rw [Nat.zero_mul,List.take_zero,List.nil_append,Nat.zero_add,hm,List.drop_eq_nil_of_le (by omega),List.append_nil] at hf
  subst hp
  simp [Instr.buildSlice,run_underlying ht,sizeOf,typeInfo,hq,h2,h0,show ¬ (16777216 < m*n) by omega,zeroValue,h1,newRow]
  rw [hA,hf]
  rfl
theorem qQ {P:Program} {w:World} {ops:Array Oper} {rest:List Oper} {o:Oper} {a:Act} {Q:Exit→Act→World→Prop} (t e:TypeId) (n m:Nat) (z:Value) (vs:List (List Value)) {parts:Array (Nat×Operand)}
  (hgd:o.guard=none) (ho:o.op=.buildSlice t m parts) (hp':(parts.toList.map fun p=>(p.1,a.eval p.2))=(vs.zipIdx 0).map fun p=>(p.2,Value.agg p.1.toArray)) (ht:P.underlying t=some (.slice e)) (hs:(P.info? e).map (fun i=>(i.zero,i.size))=some (some z,n)) (hz:z.cells.size=n)
  (hn:0 < n) (hm:vs.length=m) (hm0:0 < m) (hb:m*n≤16777216) (hv:∀ v∈vs,v.length=n)
  (k:∀ w',Blk w' w.heap.size vs.flatten e→Below w.heap.size w w'→wpList P ops Q rest (a.put o.dst (.slice (some ⟨w.heap.size,0,none⟩) m m)) w'):wpList P ops Q (o::rest) a w:=by
 refine wpList_plain hgd fun K hK=>?_
 have hp:(parts.map fun (i,x)=>(i,a.eval x))=((vs.zipIdx 0).map fun p=>(p.2,Value.agg p.1.toArray)).toArray:=by
  apply Array.toList_inj.1
  rw [Array.toList_map]
  exact hp'
 have hk:=k _ (Blk.new w vs.flatten e) (zD w _)
 have hrun:=wL (P:=P) w t e n m z vs _ ht hs hz hn hm hm0 hb hv hp
 unfold Oper.wp execOp
 simp only [ho,Sem.run_bind,hrun,Result.andThen_ok,Sem.run_pure]
 exact hK _ _ hk
theorem y8 {P:Program} {w:World} {o:Oper} {a:Act} {K:Act→World→Prop} {Q:Exit→Act→World→Prop} (t e:TypeId) (n m:Nat) (z:Value) (vs:List (List Value)) {parts:Array (Nat×Operand)}
  (ho:o.op=.buildSlice t m parts) (hp':(parts.toList.map fun p=>(p.1,a.eval p.2))=(vs.zipIdx 0).map fun p=>(p.2,Value.agg p.1.toArray)) (ht:P.underlying t=some (.slice e)) (hs:(P.info? e).map (fun i=>(i.zero,i.size))=some (some z,n)) (hz:z.cells.size=n)
  (hn:0 < n) (hm:vs.length=m) (hm0:0 < m) (hb:m*n≤16777216) (hv:∀ v∈vs,v.length=n)
  (k:∀ w',Blk w' w.heap.size vs.flatten e→Below w.heap.size w w'→K (a.put o.dst (.slice (some ⟨w.heap.size,0,none⟩) m m)) w'):o.wp P a w K Q:=by
 have hp:(parts.map fun (i,x)=>(i,a.eval x))=((vs.zipIdx 0).map fun p=>(p.2,Value.agg p.1.toArray)).toArray:=by
  apply Array.toList_inj.1
  rw [Array.toList_map]
  exact hp'
 have hk:=k _ (Blk.new w vs.flatten e) (zD w _)
 have hrun:=wL (P:=P) w t e n m z vs _ ht hs hz hn hm hm0 hb hv hp
 unfold Oper.wp execOp
 simp only [ho,Sem.run_bind,hrun,Result.andThen_ok,Sem.run_pure]
 exact hk
end Go.Cells

/-
  Texts of this claim, one behind the other.
-/
import Derived.Test.YtamdifhibogdiaaGreatDoorX1
import Derived.Test.YtamdifhibogdiaaGreatDoorX7
import Derived.Test.YtamdifhibogdiaaGreatDoorX6
import Derived.Test.YtamdifhibogdiaaGreatDoorX4
import Derived.Test.YtamdifhibogdiaaGreatDoorX5
import Derived.Laws.Externs
import GoSem.Extern.MathBitsCarry
import Derived.Lib.Hide
set_option linter.unusedVariables false
set_option linter.unusedSimpArgs false
set_option maxHeartbeats 16000000
set_option maxRecDepth 100000
open Int renaming cast_ofNat_Int→fE
open List renaming drop_append→bK,ext_getElem?→uA,getElem?_append_right→bM,getElem?_eq_none→qc,getElem?_set→uU,length_map→yf,length_set→Vo,map_append→uI,map_congr_left→lq,map_drop→dz,map_take→bN,range→uf,replicate→wh,size_toArray→dH
open Nat renaming le_of_lt→dB,le_refl→xc,le_trans→uj,lt_of_lt_of_le→bI,strongRecOn→l6
open Option renaming some.inj→uQ
open UInt64 renaming ofNat→wF
namespace Go.Proofs.YtamdifhibogdiaaGreatDoor
open RowKit Mem Ops Cells Oct Blake
attribute [local irreducible] zE zN zO zM yu
instance (b:Nat) (w:World):Nonempty (xR (Only b) w):=⟨⟨w,Only.refl b w⟩⟩
structure qD (w:World):Prop where
 first:Blk w 5 (wN.map L) (sj w 5)
 rows:Blk w 8 (zbu.map B) (sj w 8)
theorem qD.below {w w':World} (h:qD w) (hb:Below w.heap.size w w'):qD w':=by
 have e1:sj w' 5=sj w 5:=by unfold sj;rw [hb.block _ h.first.lt]
 have e2:sj w' 8=sj w 8:=by unfold sj;rw [hb.block _ h.rows.lt]
 exact ⟨by rw [e1];exact h.first.below hb h.first.lt,by rw [e2];exact h.rows.below hb h.rows.lt⟩
theorem kI:Row Tryz.prog 333 8:=⟨by kernel_rfl,by kernel_rfl⟩
theorem zbw:Row Tryz.prog 358 128:=⟨by kernel_rfl,by kernel_rfl⟩
def zjd (n:Nat):List UInt64:=wh n 0
theorem wR (n:Nat):(zjd n).length=n:=by simp [zjd]
theorem zbx:(Tryz.prog.info? 333).map (·.zero)=some (some (.agg ((zjd 8).map L).toArray)):=by kernel_rfl
theorem X4:(Tryz.prog.info? 373).map (·.zero)=some (some (.agg ((zjd 16).map L).toArray)):=by kernel_rfl
theorem zju (x:UInt64):qf (wF 18446744073709551615) x=za9 x:=by
 unfold qf za9
 rw [show wF 18446744073709551615=-1 from rfl,UInt64.neg_one_xor]
theorem QO (l:List UInt64):∀ v∈l.map L,v.oneCell'=true:=by
 intro v hv
 obtain ⟨x,_,rfl⟩:=List.mem_map.1 hv
 rfl
def qL (h:List UInt64) (i:Nat):List UInt64:=(uf 16).map fun k=>if k % 8 < i then wu h k else 0
theorem ql (h:List UInt64) (i:Nat):(qL h i).length=16:=by simp [qL]
theorem WX (h:List UInt64):qL h 0=zjd 16:=by
 apply uA;intro k
 by_cases hk:k < 16
 ·unfold qL zjd
  rw [List.getElem?_map,List.getElem?_range hk,List.getElem?_replicate,if_pos hk]
  rfl
 ·rw [qc (by rw [ql];omega),qc (by rw [wR];omega)]
theorem WY (h:List UInt64):qL h 8=wP h:=by
 unfold qL wP
 apply lq
 intro k _
 rw [if_pos (Nat.mod_lt _ (by omega))]
theorem WZ (h:List UInt64) {i:Nat} (hi:i < 8):((qL h i).set i (at64 h i)).set (i+8) (at64 wN i)=qL h (i+1):=by
 apply uA;intro k
 by_cases hk:k < 16
 ·rw [uU,uU]
  have e:∀ j,(qL h j)[k]? = some (if k % 8 < j then wu h k else 0):=fun j=>by simp [qL,hk]
  rw [e,e,Vo,ql]
  by_cases h1:i+8=k
  ·subst h1
   rw [if_pos rfl,if_pos hk,if_pos (by omega)]
   unfold wu
   rw [if_neg (by omega),Nat.add_sub_cancel]
  ·rw [if_neg h1]
   by_cases h2:i=k
   ·subst h2
    rw [if_pos rfl,if_pos hk,if_pos (by omega)]
    unfold wu
    rw [if_pos hi]
   ·rw [if_neg h2]
    by_cases h3:k % 8 < i
    ·rw [if_pos h3,if_pos (by omega)]
    ·rw [if_neg h3,if_neg (by omega)]
 ·rw [qc (by simp [ql];omega),qc (by rw [ql];omega)]
def zqr (h v:List UInt64) (i:Nat):List UInt64:=(uf 8).map fun k=>if k < i then Ji h v k else at64 h k
theorem qY (h v:List UInt64) (i:Nat):(zqr h v i).length=8:=by simp [zqr]
theorem zei {h:List UInt64} (v:List UInt64) (hh:h.length=8):zqr h v 0=h:=by
 apply uA;intro k
 by_cases hk:k < 8
 ·rw [z9 (l:=h) (by omega)]
  simp [zqr,hk]
 ·rw [qc (by rw [qY];omega),qc (by omega)]
theorem zej (h v:List UInt64):zqr h v 8=(uf 8).map (Ji h v):=by
 unfold zqr
 apply lq
 intro k hk
 rw [if_pos (by simpa using hk)]
theorem zjv (h v:List UInt64) {i:Nat} (hi:i < 8):(zqr h v i)[i]? = some (at64 h i):=by simp [zqr,hi]
theorem zek (h v:List UInt64) {i:Nat} (hi:i < 8):(zqr h v i).set i (Ji h v i)=zqr h v (i+1):=by
 apply uA;intro k
 by_cases hk:k < 8
 ·rw [uU]
  have e:∀ j,(zqr h v j)[k]? = some (if k < j then Ji h v k else at64 h k):=fun j=>by simp [zqr,hk]
  rw [e,e,qY]
  by_cases h2:i=k
  ·subst h2
   rw [if_pos rfl,if_pos hk,if_pos (by omega)]
  ·rw [if_neg h2]
   by_cases h3:k < i
   ·rw [if_pos h3,if_pos (by omega)]
   ·rw [if_neg h3,if_neg (by omega)]
 ·rw [qc (by simp [qY];omega),qc (by rw [qY];omega)]
abbrev jO (bb b1 b2 b3 b4 b5:Nat) (tf tr:TypeId) (blk:List UInt8) (lo hi:UInt64) (h m v:List UInt64):List (Nat×List Value×TypeId) :=
 [(b5,v.map L,373),(b4,m.map L,373),(b3,(zjd 8).map L,333),(b2,[L lo,L hi],62),(b1,blk.map B,358),(bb,h.map L,333),(5,wN.map L,tf),(8,zbu.map B,tr)]
def zjT (m:List UInt64) (row:List UInt8) (v:List UInt64):List UInt64:=rD m row v 8
theorem zfv {r i:Nat} (hr:r < 10) (hi:i < 16):(js r)[i]? = some (at8 (js r) i):=q4 (by rw [Q9 hr];exact hi)
theorem zby (h:List UInt64) (blk:List UInt8) (lo up:UInt64) (w:World) (hh:h.length=8) (hk:blk.length=128) (hg:qD w) :
  Calls Tryz.prog 258 #[.agg (h.map L).toArray,.agg (blk.map B).toArray,.agg #[L lo,L up],.bool true] w fun e w'=>e=.returned (.agg ((compress h blk lo up true).map L).toArray)∧Below w.heap.size w w':=by
 have HH:=znq hh
 have HHM:=znq (show (h.map L).length=8 by rw [yf];exact hh)
 have HK:=znq hk
 have HG:=znq hg
 have hgf:=hg.first.lt
 have hgr:=hg.rows.lt
 have HS:=znq (((St.start w).add hg.rows).add hg.first)
 clear hh hk hg
 go_enter Tryz.func258,Tryz.ntmps258
 go_wp2_with (refine zh 333 _ (h.map L) _ rfl rfl rfl rfl ?_)
 intro w1 hb hbel;have HS:=znq (HS.znr.push hb hbel);have hlt1:=hb.lt;clear hb hbel
 go_wp2_with (refine zh 358 _ (blk.map B) _ rfl rfl rfl rfl ?_)
 intro w2 hb hbel;have HS:=znq (HS.znr.push hb hbel);have hlt2:=hb.lt;clear hb hbel
 go_wp2_with (refine zh 62 _ ([L lo,L up]) _ rfl rfl rfl rfl ?_)
 intro w3 hb hbel;have HS:=znq (HS.znr.push hb hbel);have hlt3:=hb.lt;clear hb hbel
 go_wp2_with (refine ze 333 ((zjd 8).map L) _ rfl rfl zbx rfl ?_)
 intro w4 hb hbel;have HS:=znq (HS.znr.push hb hbel);have zaE:=hb.lt;clear hb hbel
 go_wp2_with (refine ze 373 ((zjd 16).map L) _ rfl rfl X4 rfl ?_)
 intro w5 hb hbel;have HS:=znq (HS.znr.push hb hbel);have zcO:=hb.lt;clear hb hbel
 go_wp2_with (refine ze 373 ((zjd 16).map L) _ rfl rfl X4 rfl ?_)
 intro w6 hb hbel;have HS:=znq (HS.znr.push hb hbel);have zfP:=hb.lt;clear hb hbel
 generalize sj w 5=tf at *
 generalize sj w 8=tr at *
 generalize hbb:w.heap.size=bb at *
 generalize w1.heap.size=bw1 at *
 generalize w2.heap.size=bw2 at *
 generalize w3.heap.size=bw3 at *
 generalize w4.heap.size=bw4 at *
 generalize w5.heap.size=bw5 at *
 have HBB:=znq hbb
 clear hbb
 have HS:=znq (show St w bb w6 (jO bb bw1 bw2 bw3 bw4 bw5 tf tr blk lo up h (zjd 16) (zjd 16)) from HS.znr)
 go_wp2
 go_loopw [17] (fun c wr=>∃ (i:Nat) (l:List UInt64),i≤16∧c=.int .i64 i∧Hid (yg (fun k=>pJ blk (8*k)) 16 i l)∧Hid (St w bb wr (jO bb bw1 bw2 bw3 bw4 bw5 tf tr blk lo up h l (zjd 16)))) (fun c _=>16 - (intOf c).toNat)
 case atStart=>exact ⟨0,zjd 16,by omega,rfl,yg.zero (wR 16),HS⟩
 case round =>
  clear HS
  obtain ⟨i,l,hi,rfl,HF,HS⟩:=hrel
  by_cases hlt:i < 16
  ·obtain ⟨j,hj⟩:∃ j,j=8*i:=⟨_,rfl⟩
   have e1:(8:Int)*(i:Int)=(j:Int):=by omega
   have hj8:j≤128:=by omega
   obtain ⟨x0,hx0⟩:=HF.znr.at hlt
   have HX:=znq hx0
   have HF2:=znq (HF.znr.step hlt)
   have HF2:=znq (show yg (fun k=>pJ blk (8*k)) 16 (i+1) (l.set i (pJ blk j)) by rw [hj];exact HF2.znr)
   clear hj hx0
   go_wp2_with fail
   refine (WL (some ⟨bw1,0,none⟩) 128 128 j blk _ HK.znr (by omega) (by omega) (HS.znr.get 4 rfl).lies).mono ?_
   rintro e w7 ⟨rfl,ny⟩
   have HS:=znq (HS.znr.later ny)
   generalize pJ blk j=x at *
   clear ny
   go_wp2_with (refine (HS.znr.get 1 rfl).ry (v:=L x) (i:=i) rfl rfl rfl rfl zR rfl rfl (by rw [yf,HF.znr.1];exact hlt) ?_)
   intro w8 hb8 ho8
   rw [y7] at hb8
   have HS:=znq (show St w bb w8 (jO bb bw1 bw2 bw3 bw4 bw5 tf tr blk lo up h (l.set i x) (zjd 16)) from HS.znr.change 1 hb8 ho8 (by omega) (by simp;omega))
   clear hb8 ho8
   go_wp2
   go_roundw
   case rel=>exact ⟨i+1,_,by omega,by go_num,HF2,HS⟩
   case measure=>simp [intOf];omega
  ·obtain rfl:i=16:=by omega
   have hm:=HF.znr.all
   have HS:=znq (show St w bb wr (jO bb bw1 bw2 bw3 bw4 bw5 tf tr blk lo up h (numbers blk) (qL h 0)) by rw [WX,numbers,← hm];exact HS.znr)
   clear hm HF
   go_wp2
   simp only [fE]
   go_loopw [27] (fun c wr=>∃ i:Nat,i≤8∧c=.int .i64 i∧Hid (St w bb wr (jO bb bw1 bw2 bw3 bw4 bw5 tf tr blk lo up h (numbers blk) (qL h i)))) (fun c _=>8 - (intOf c).toNat)
   case atStart=>exact ⟨0,by omega,rfl,HS⟩
   case round =>
    clear HS
    obtain ⟨i,hi,rfl,HS⟩:=hrel
    by_cases hlt:i < 8
    ·have hc1:=fun (x:xR (Only bw5) wr.drew)=>((HS.znr.drew.get 5 rfl).only x.rel (by omega)).cell i _ (yz (z9 (l:=h) (i:=i) (by rw [HH.znr];exact hlt)))
     have hc2:=fun (x:xR (Only bw5) wr.drew)=>((HS.znr.drew.get 6 rfl).only x.rel (by omega)).cell i _ (yz (z9 (l:=wN) (i:=i) (by exact hlt)))
     have HST:=znq (WZ h hlt)
     go_wp2_with fail
     refine Yh (Only bw5) [] [(0,true),(1,true),(2,true),(3,true),(4,true),(5,true),(6,true),(7,true),(8,true),(9,true),(10,false),(11,true),(12,false)] (Only.refl _) (fun _ _ _ h k=>h.trans k) (by kernel_rfl) (by kernel_rfl) ?_
     rintro w7 rfl
     iterate 10 refine m1K ?_
     clear hc1 hc2
     refine xL rfl (by rfl) (fun K hK=>?_)
     refine (HS.znr.drew.get 0 rfl).nO (v:=L (at64 h i)) rfl rfl rfl zR rfl rfl (by rw [yf,ql];omega) (fun w8 hb8 ho8=>hK _ _ (fun _=>ho8) ?_)
     clear hK K
     rw [y7] at hb8
     have HS:=znq (show St w bb w8 (jO bb bw1 bw2 bw3 bw4 bw5 tf tr blk lo up h (numbers blk) ((qL h i).set i (at64 h i))) from HS.znr.drew.change 0 hb8 ho8 (by omega) (by simp;omega))
     clear hb8 ho8
     go_simp
     refine m1K ?_
     refine xL rfl (by rfl) (fun K hK=>?_)
     refine (HS.znr.get 0 rfl).nO (v:=L (at64 wN i)) rfl rfl rfl zR rfl rfl (by rw [yf,Vo,ql];omega) (fun w9 hb9 ho9=>hK _ _ (fun _=>ho9) ?_)
     clear hK K
     rw [y7,HST.znr] at hb9
     have HS:=znq (show St w bb w9 (jO bb bw1 bw2 bw3 bw4 bw5 tf tr blk lo up h (numbers blk) (qL h (i+1))) from HS.znr.change 0 hb9 ho9 (by omega) (by simp;omega))
     clear hb9 ho9
     go_simp
     refine kN ?_
     go_wp2
     go_roundw
     case rel=>exact ⟨i+1,by omega,by go_num,HS⟩
     case measure=>simp [intOf];omega
    ·obtain rfl:i=8:=by omega
     rw [WY] at HS
     have hc12:=(HS.znr.get 0 rfl).cell 12 _ (yz (z9 (l:=wP h) (i:=12) (by rw [jE];omega)))
     have hcl:=(HS.znr.get 3 rfl).cell 0 _ rfl
     go_wp2_with (refine (HS.znr.get 0 rfl).ry (v:=L (qf (at64 (wP h) 12) lo)) (i:=12) rfl rfl rfl rfl zR rfl rfl (by rw [yf,jE];omega) ?_)
     intro w8 hb8 ho8
     rw [y7] at hb8
     obtain ⟨v1,hv1⟩:∃ v1,v1=(wP h).set 12 (qf (at64 (wP h) 12) lo):=⟨_,rfl⟩
     rw [← hv1] at hb8
     have HS:=znq (show St w bb w8 (jO bb bw1 bw2 bw3 bw4 bw5 tf tr blk lo up h (numbers blk) v1) from HS.znr.change 0 hb8 ho8 (by omega) (by simp;omega))
     have HL1:=znq (show v1.length=16 by rw [hv1,Vo];exact jE h)
     have HV1:=znq hv1
     clear hb8 ho8 hc12 hcl hv1
     have hc13:=(HS.znr.get 0 rfl).cell 13 _ (yz (z9 (l:=v1) (i:=13) (by rw [HL1.znr];omega)))
     have hch:=(HS.znr.get 3 rfl).cell 1 _ rfl
     go_wp2_with (refine (HS.znr.get 0 rfl).ry (v:=L (qf (at64 v1 13) up)) (i:=13) rfl rfl rfl rfl zR rfl rfl (by rw [yf,HL1.znr];omega) ?_)
     intro w9 hb9 ho9
     rw [y7] at hb9
     have hv2:v1.set 13 (qf (at64 v1 13) up)=jt h lo up:=by rw [HV1.znr];rfl
     rw [hv2] at hb9
     have HS:=znq (show St w bb w9 (jO bb bw1 bw2 bw3 bw4 bw5 tf tr blk lo up h (numbers blk) (jt h lo up)) from HS.znr.change 0 hb9 ho9 (by omega) (by simp;omega))
     clear hb9 ho9 hc13 hch hv2 HL1 HV1
     have hc14:=(HS.znr.get 0 rfl).cell 14 _ (yz (z9 (l:=jt h lo up) (i:=14) (by rw [wQ];omega)))
     have HS14:=znq (show (jt h lo up).set 14 (za9 (at64 (jt h lo up) 14))=sG h lo up true from rfl)
     have hsg:IntKind.u64.signed=false:=rfl
     have hmx:IntKind.u64.max=18446744073709551615:=by decide
     have HN14:=znq (show qf 18446744073709551615 (at64 (jt h lo up) 14)=za9 (at64 (jt h lo up) 14) from zju _)
     go_wp2_with (refine (HS.znr.get 0 rfl).ry (v:=L (qf (wF 18446744073709551615) (at64 (jt h lo up) 14))) (i:=14) rfl rfl rfl rfl zR rfl rfl (by rw [yf,wQ];omega) ?_)
     intro w10 sD rH
     rw [y7,HN14.znr,HS14.znr] at sD
     have HS:=znq (show St w bb w10 (jO bb bw1 bw2 bw3 bw4 bw5 tf tr blk lo up h (numbers blk) (sG h lo up true)) from HS.znr.change 0 sD rH (by omega) (by simp;omega))
     clear sD rH hc14 HS14 hsg hmx HN14
     have HCE:=znq (show compress h blk lo up true=(uf 8).map (Ji h (nJ (numbers blk) (sG h lo up true) 12))∧True from ⟨rfl,trivial⟩)
     have HML:=znq (Jh blk)
     have HVL:=znq (Vw h lo up true)
     generalize sG h lo up true=sv at *
     generalize numbers blk=ms at *
     go_wp2
     try simp only [fE]
     go_loopw [59] (fun c wr=>∃ r:Nat,r≤12∧c=.int .i64 r∧Hid (St w bb wr (jO bb bw1 bw2 bw3 bw4 bw5 tf tr blk lo up h ms (nJ ms sv r)))) (fun c _=>12 - (intOf c).toNat)
     case atStart=>exact ⟨0,by omega,rfl,HS⟩
     case round =>
      clear HS
      obtain ⟨r,hr,rfl,HS⟩:=hrel
      by_cases hlt:r < 12
      ·obtain ⟨q,hq⟩:∃ q,q=r % 10:=⟨_,rfl⟩
       have e1:(r:Int) % 10=(q:Int):=by omega
       have zfQ:q < 10:=by omega
       have HQ:=znq (show zjT ms (js q) (nJ ms sv r)=nJ ms sv (r+1)∧True from ⟨by rw [hq];rfl,trivial⟩)
       have HVR:=znq (show (nJ ms sv r).length=16 by rw [vN];exact HVL.znr)
       clear hq
       generalize nJ ms sv r=vr at *
       have HRR:=znq (Blk.nA (HS.znr.get 7 rfl) (q*16) 16 ((js q).map B) (by rw [← dz,← bN,Nat.mul_comm];rfl))
       have HRL:=znq (show ((js q).map B).length=16 by rw [yf];exact Q9 zfQ)
       go_wp2_with (first | (refine wpList_load_mid rfl 59 (.tmp 64) rfl 8 (q*16) rfl _ _ HRR.znr Tryz.underlying59 rfl (by rw [HRL.znr];exact zc.2) ?_) | (refine ze 59 ((zf 16).map B) _ rfl rfl zj rfl ?_))
       intro w11 hb hbel
       have hz5:=(HS.znr.get 0 rfl).lt
       have HS:=znq (HS.znr.push hb hbel)
       have zjU:=hb.lt
       clear hb hbel HRR
       generalize wr.heap.size=bk at *
       go_wp2_with (refine (HS.znr.get 0 rfl).mM rfl rfl rfl rfl zc (by simp [zd]) HRL.znr (zg _) ?_)
       intro w12 pY sJ
       have HS:=znq (show St w bb w12 ((bk,(js q).map B,59)::jO bb bw1 bw2 bw3 bw4 bw5 tf tr blk lo up h ms vr) from HS.znr.change 0 pY sJ (by omega) (by simp;omega))
       clear pY sJ
       go_wp2
       go_loopw [66] (fun c ws=>∃ i:Nat,i≤8∧c=.int .i64 i∧Hid (St w bb ws ((bk,(js q).map B,59)::jO bb bw1 bw2 bw3 bw4 bw5 tf tr blk lo up h ms (rD ms (js q) vr i)))) (fun c _=>8 - (intOf c).toNat)
       case atStart=>exact ⟨0,by omega,rfl,HS⟩
       case round =>
        clear HS
        obtain ⟨i,hi,rfl,HS⟩:=hrel
        by_cases hlt2:i < 8
        ·obtain ⟨i4,hi4⟩:∃ q,q=i % 4:=⟨_,rfl⟩
         obtain ⟨iq,hiq⟩:∃ q,q=i / 4:=⟨_,rfl⟩
         obtain ⟨j,hj⟩:∃ q,q=2*i:=⟨_,rfl⟩
         have f1:(i:Int) % 4=(i4:Int):=by omega
         have f2:(i:Int) / 4=(iq:Int):=by omega
         have f3:(2:Int)*(i:Int)=(j:Int):=by omega
         have hj2:j+1 < 16:=by omega
         have g4:i4 < 4:=by omega
         have g2:iq < 2:=by omega
         have HST:=znq (show V9 (rD ms (js q) vr i) i4 iq (at64 ms (at8 (js q) j).toNat) (at64 ms (at8 (js q) (j+1)).toNat)=rD ms (js q) vr (i+1)∧True from ⟨by rw [hi4,hiq,hj];rfl,trivial⟩)
         have HVI:=znq (show (rD ms (js q) vr i).length=16 by rw [wO];exact HVR.znr)
         have hx1:=Jg q zfQ j (by omega)
         have hx2:=Jg q zfQ (j+1) (by omega)
         have hc1:=fun (x:xR (Below wr.heap.size) wr.drew)=>((HS.znr.drew.later x.rel).get 0 rfl).cell j _ (zU (zfv zfQ (i:=j) (by omega)))
         have hc2:=fun (x:xR (Below wr.heap.size) wr.drew)=>((HS.znr.drew.later x.rel).get 0 rfl).cell (j+1) _ (zU (zfv zfQ (i:=j+1) (by omega)))
         have hc3:=fun (x:xR (Below wr.heap.size) wr.drew)=>((HS.znr.drew.later x.rel).get 2 rfl).cell (at8 (js q) j).toNat _ (yz (z9 (l:=ms) (i:=(at8 (js q) j).toNat) (by rw [HML.znr];omega)))
         have hc4:=fun (x:xR (Below wr.heap.size) wr.drew)=>((HS.znr.drew.later x.rel).get 2 rfl).cell (at8 (js q) (j+1)).toNat _ (yz (z9 (l:=ms) (i:=(at8 (js q) (j+1)).toNat) (by rw [HML.znr];omega)))
         generalize at8 (js q) j=x1 at *
         generalize at8 (js q) (j+1)=x2 at *
         generalize rD ms (js q) vr i=vi at *
         clear hi4 hiq hj
         go_wp2_with fail
         refine Yh (Below wr.heap.size) [17] [(0,true),(1,true),(2,true),(3,true),(4,true),(5,true),(6,true),(7,true),(8,true),(9,true),(10,true),(11,true),(12,true),(13,true),(14,true),(15,true),(16,true),(17,false)] (Below.refl _) (fun _ _ _ h k=>h.trans k) (by kernel_rfl) (by kernel_rfl) ?_
         rintro w13 rfl
         iterate 17 refine m1K ?_
         clear hc1 hc2 hc3 hc4
         refine xL rfl (by rfl) (fun K hK=>?_)
         go_simp
         refine (zmb bw5 i4 iq (at64 ms x1.toNat) (at64 ms x2.toNat) vi _ (HS.znr.drew.get 1 rfl) HVI.znr g4 g2).mono ?_
         rintro e w14 ⟨⟨v14,rfl⟩,zbP,zcP⟩
         rw [HST.znr.1] at zbP
         have HS:=znq (show St w bb w14 ((bk,(js q).map B,59)::jO bb bw1 bw2 bw3 bw4 bw5 tf tr blk lo up h ms (rD ms (js q) vr (i+1))) from HS.znr.drew.change 1 zbP zcP (by omega) (by simp;omega))
         clear zbP zcP
         go_simp
         refine hK _ _ (fun hno=>absurd hno (by decide)) ?_
         clear hK K
         refine kN ?_
         go_wp2
         go_roundw
         case rel=>exact ⟨i+1,by omega,by go_num,HS⟩
         case measure=>simp [intOf];omega
        ·obtain rfl:i=8:=by omega
         have HS:=znq HS.znr.tail
         rw [show rD ms (js q) vr 8=nJ ms sv (r+1) from HQ.znr.1] at HS
         go_wp2
         go_roundw
         case rel=>exact ⟨r+1,by omega,by go_num,HS⟩
         case measure=>simp [intOf];omega
      ·obtain rfl:r=12:=by omega
       have HV12:=znq (show (nJ ms sv 12).length=16 by rw [vN];exact HVL.znr)
       generalize nJ ms sv 12=v12 at *
       have HS:=znq (show St w bb wr (jO bb bw1 bw2 bw3 bw4 bw5 tf tr blk lo up (zqr h v12 0) ms v12) by rw [zei v12 HH.znr];exact HS.znr)
       rw [← zej] at HCE
       have HHO:=znq HHM.znr
       go_wp2
       try simp only [fE]
       go_loopw [89] (fun c wr=>∃ i:Nat,i≤8∧c=.int .i64 i∧Hid (St w bb wr (jO bb bw1 bw2 bw3 bw4 bw5 tf tr blk lo up (zqr h v12 i) ms v12))) (fun c _=>8 - (intOf c).toNat)
       case atStart=>exact ⟨0,by omega,rfl,HS⟩
       case round =>
        clear HS
        obtain ⟨i,hi,rfl,HS⟩:=hrel
        by_cases hlt2:i < 8
        ·have HST:=znq (zek h v12 hlt2)
         have hc1:=fun (x:zG wr.drew)=>((HS.znr.drew.later x.later).get 5 rfl).cell i _ (yz (zjv h v12 hlt2))
         have hc2:=fun (x:zG wr.drew)=>((HS.znr.drew.later x.later).get 0 rfl).cell i _ (yz (z9 (l:=v12) (i:=i) (by rw [HV12.znr];omega)))
         have hc3:=fun (x:zG wr.drew)=>((HS.znr.drew.later x.later).get 0 rfl).cell (i+8) _ (yz (z9 (l:=v12) (i:=i+8) (by rw [HV12.znr];omega)))
         go_wp2_with fail
         refine zn [0,1,2,3,4,5,6,7,8,9,10,11,12,13] (by kernel_rfl) (by kernel_rfl) ?_
         rintro w15 rfl
         refine mqR ?_
         clear hc1 hc2 hc3
         refine zp rfl rfl (by rfl) (fun K hK=>?_)
         refine (HS.znr.drew.get 5 rfl).nO (v:=L (Ji h v12 i)) rfl rfl rfl zR rfl rfl (by rw [yf,qY];omega) (fun w16 zaT zdJ=>hK _ _ ?_)
         clear hK K
         rw [y7,HST.znr] at zaT
         have HS:=znq (show St w bb w16 (jO bb bw1 bw2 bw3 bw4 bw5 tf tr blk lo up (zqr h v12 (i+1)) ms v12) from HS.znr.drew.change 5 zaT zdJ (by omega) (by simp;omega))
         clear zaT zdJ
         go_simp
         refine zo ?_
         go_wp2
         go_roundw
         case rel=>exact ⟨i+1,by omega,by go_num,HS⟩
         case measure=>simp [intOf];omega
        ·obtain rfl:i=8:=by omega
         have HO8:=znq (show ((zqr h v12 8).map L).length=8 by rw [yf];exact qY _ _ _)
         go_wp2_with (first | (refine (HS.znr.get 5 rfl).mP rfl rfl rfl kI HO8.znr ?_) | (refine (HS.znr.get 2 rfl).mM rfl rfl rfl rfl kI (by simp [wR]) HO8.znr (QO _) ?_))
         intro w17 zcZ zdP
         have zfR:=zk HS.znr.bel zdP (by omega)
         go_wp2
         refine zcZ.result rfl rfl rfl kI HO8.znr ⟨by rw [HCE.znr.1],?_⟩
         rw [HBB.znr]
         exact zfR
end Go.Proofs.YtamdifhibogdiaaGreatDoor
namespace Go.Cells
open RowKit
structure zI (b:Nat) (w w':World):Prop where
 os:w'.os=w.os
 tape:w'.tape=w.tape
 output:w'.output=w.output
 size:w.heap.size≤w'.heap.size
 block:∀ k,k < w.heap.size→k≠b→w'.heap[k]? = w.heap[k]?
theorem zI.refl (b:Nat) (w:World):zI b w w:=⟨rfl,rfl,rfl,xc _,fun _ _ _=>rfl⟩
theorem zI.trans {b:Nat} {u v w:World} (h:zI b u v) (k:zI b v w):zI b u w :=
 ⟨k.os.trans h.os,k.tape.trans h.tape,k.output.trans h.output,uj h.size k.size,fun i hi hne=>(k.block i (bI hi h.size) hne).trans (h.block i hi hne)⟩
theorem zI.of_below {b:Nat} {w w':World} (h:Below w.heap.size w w'):zI b w w':=⟨h.os,h.tape,h.output,h.size,fun k hk _=>h.block k hk⟩
theorem zI.nH {b:Nat} {w w':World} (h:Only b w w'):zI b w w':=⟨h.os,h.tape,h.output,by rw [h.size];exact xc _,fun k _ hne=>h.block k hne⟩
theorem zI.drew {b:Nat} {w w':World} (h:zI b w w'):zI b w w'.drew:=⟨h.os,h.tape,h.output,h.size,h.block⟩
theorem zI.other {b c:Nat} {u v w:World} (h:zI b u v) (k:Only c v w) (hc:u.heap.size≤c):zI b u w :=
 ⟨k.os.trans h.os,k.tape.trans h.tape,k.output.trans h.output,by rw [k.size];exact h.size,fun i hi hne=>(k.block i (by omega)).trans (h.block i hi hne)⟩
theorem Blk.pR {w w':World} {b c:Nat} {vs:List Value} {ty:TypeId} (h:Blk w c vs ty) (ho:zI b w w') (hne:c≠b):Blk w' c vs ty:=(ho.block c h.lt hne).trans h
theorem jP {B b:Nat} {u w w':World} (h:Below B u w) (ho:zI b w w') (hb:B≤b) (hB:B≤w.heap.size):Below B u w' :=
 ⟨ho.os.trans h.os,ho.tape.trans h.tape,ho.output.trans h.output,uj h.size ho.size,fun k hk=>(ho.block k (bI hk hB) (by omega)).trans (h.block k hk)⟩
theorem Blk.zaU {P:Program} {w:World} {b o n:Nat} {vs:List Value} {ty':TypeId} (h:Blk w b vs ty') {ops:Array Oper} {rest:List Oper} {op:Oper} {a:Act} {Q:Exit→Act→World→Prop} {ty:TypeId} {x y:Operand} {cs:List Value}
  (hgd:op.guard=none) (ho:op.op=.store ty x y) (hx:a.eval x=.pointer (some ⟨b,o,none⟩)) (hy:a.eval y=.agg cs.toArray) (hr:Row P ty n) (hc:cs.length=n) (hfit:o+n≤vs.length) (h1:∀ v∈cs,v.oneCell'=true)
  (k:∀ w',Blk w' b (vs.take o++cs++vs.drop (o+cs.length)) ty'→Only b w w'→wpList P ops Q rest (a.put op.dst undef) w'):wpList P ops Q (op::rest) a w:=by
 obtain ⟨d,hu,hd,hi⟩:=hr.open
 refine wpList_store_mid hgd ty x y ho b o cs.toArray hx hy (h.there o _ (by rw [dH];omega)) (by rw [hi];simp [hc]) (all_oneCell_toArray h1) ?_
 exact k (w.setCells b o cs) (Blk.setCells cs vs o w (by omega) h) (Only.setCells b cs o w)
theorem Blk.pG {P:Program} {w:World} {b o n:Nat} {vs:List Value} {ty':TypeId} (h:Blk w b vs ty') {op:Oper} {a:Act} {K:Act→World→Prop} {Q:Exit→Act→World→Prop} {ty:TypeId} {x y:Operand} {cs:List Value}
  (ho:op.op=.store ty x y) (hx:a.eval x=.pointer (some ⟨b,o,none⟩)) (hy:a.eval y=.agg cs.toArray) (hr:Row P ty n) (hc:cs.length=n) (hfit:o+n≤vs.length) (h1:∀ v∈cs,v.oneCell'=true)
  (k:∀ w',Blk w' b (vs.take o++cs++vs.drop (o+cs.length)) ty'→Only b w w'→K (a.put op.dst undef) w'):op.wp P a w K Q:=by
 obtain ⟨d,hu,hd,hi⟩:=hr.open
 refine wp_store_mid ty x y ho b o cs.toArray hx hy (h.there o _ (by rw [dH];omega)) (by rw [hi];simp [hc]) (all_oneCell_toArray h1) ?_
 exact k (w.setCells b o cs) (Blk.setCells cs vs o w (by omega) h) (Only.setCells b cs o w)
end Go.Cells
namespace Go.Proofs.YtamdifhibogdiaaGreatDoor
open RowKit Mem Ops Cells Oct Blake
attribute [local irreducible] zE zN zO zM yu
theorem Wa (x:Int) (hx:0≤x∧x≤18446744073709551615) (w:World):(callFunc 270 #[.int .u64 0,.int .u64 x,.int .u64 0]).run Tryz.prog w=.ok (.value (.tuple #[.int .u64 x,.int .u64 0])) w:=by
 rw [run_callFunc_extern Tryz.func270 (by kernel_rfl) (by kernel_rfl) (by kernel_rfl) (e:=add64Entry) (by kernel_rfl),run_add64 0 x 0 (by omega) hx.1 (by omega) (by omega)]
 have e1:(0+x+0) % 18446744073709551616=x:=by omega
 have e2:(0+x+0) / 18446744073709551616=0:=by omega
 rw [e1,e2]
 rfl
theorem X5 (a b:Int):∀ v∈[Value.int .u64 a,.int .u64 b],v.oneCell'=true:=by
 intro v hv
 simp at hv
 rcases hv with rfl | rfl <;> rfl
theorem zjw (n:Nat) (w:World) (hn:n≤1024) :
  Calls Tryz.prog 257 #[.agg #[.int .u64 0,.int .u64 0],.agg #[.int .u64 n,.int .u64 0]] w fun e w'=>e=.returned (.agg #[.int .u64 n,.int .u64 0])∧Below w.heap.size w w':=by
 have HS:=znq (St.start w)
 have hr1:=fun w=>Wa (n:Int) (by omega) w
 have hr2:=fun w=>Wa 0 (by omega) w
 go_enter Tryz.func257,Tryz.ntmps257
 go_wp2_with (refine zh 62 _ ([.int .u64 0,.int .u64 0]) _ rfl rfl rfl rfl ?_)
 intro w1 hb hbel;have HS:=znq (HS.znr.push hb hbel);have hlt1:=hb.lt;clear hb hbel
 go_wp2_with (refine zh 62 _ ([.int .u64 n,.int .u64 0]) _ rfl rfl rfl rfl ?_)
 intro w2 hb hbel;have HS:=znq (HS.znr.push hb hbel);have hlt2:=hb.lt;clear hb hbel
 go_wp2_with (refine ze 62 [.int .u64 0,.int .u64 0] _ rfl rfl zT rfl ?_)
 intro w3 hb hbel;have HS:=znq (HS.znr.push hb hbel);have hlt3:=hb.lt;clear hb hbel
 generalize hbb:w.heap.size=bb at *
 generalize w1.heap.size=bw1 at *
 generalize w2.heap.size=bw2 at *
 have HBB:=znq hbb
 clear hbb
 have hc1:=(HS.znr.get 2 rfl).cell 0 _ rfl
 have hc2:=(HS.znr.get 1 rfl).cell 0 _ rfl
 have hc3:=(HS.znr.get 2 rfl).cell 1 _ rfl
 have hc4:=(HS.znr.get 1 rfl).cell 1 _ rfl
 go_wp2_with (refine (HS.znr.get 0 rfl).mM rfl rfl rfl (cs:=[.int .u64 n,.int .u64 0]) rfl zq rfl rfl (X5 _ _) ?_)
 intro w4 hb4 ho4
 have nD:=zk HS.znr.bel ho4 (by omega)
 go_wp2
 refine hb4.result rfl rfl rfl zq rfl ⟨rfl,?_⟩
 rw [HBB.znr]
 exact nD
def nN (h:List UInt64) (n:Nat) (rest:Value):List Value:=h.map L++[.int .u64 n,.int .u64 0,rest,.int .i64 48]
theorem nK {h:List UInt64} (hl:h.length=8) (n:Nat) (r:Value):(nN h n r).length=12:=by simp [nN,hl]
theorem W0 {h:List UInt64} (hl:h.length=8) (n:Nat) (r:Value):((nN h n r).drop 0).take 8=h.map L:=by simp [nN,hl]
theorem zfw {h:List UInt64} (hl:h.length=8) (n:Nat) (r:Value):((nN h n r).drop 8).take 2=[.int .u64 n,.int .u64 0]:=by simp [nN,hl,bK]
theorem Jj {h:List UInt64} (hl:h.length=8) (n:Nat) (r:Value):(nN h n r)[10]? = some r:=by simp [nN,hl,bM]
theorem zjx {h:List UInt64} (hl:h.length=8) (n:Nat) (r:Value):(nN h n r)[11]? = some (.int .i64 48):=by simp [nN,hl,bM]
theorem zel {h h':List UInt64} (hl:h.length=8) (hl':h'.length=8) (n:Nat) (r:Value):(nN h n r).take 0++h'.map L++(nN h n r).drop (0+(h'.map L).length)=nN h' n r:=by
 simp [nN,hl,hl',bK]
theorem zem {h:List UInt64} (hl:h.length=8) (n m:Nat) (r:Value):(nN h n r).take 8++.int .u64 m::.int .u64 0::(nN h n r).drop 10=nN h m r:=by
 simp [nN,hl,bK,List.take_append]
theorem zbz {h:List UInt64} (hl:h.length=8) (n:Nat) (r s:Value):(nN h n r).set 10 s=nN h n s:=by
 simp [nN,hl,List.set_append_right]
theorem W1:(Tryz.prog.info? 358).map (·.zero)=some (some (.agg ((zf 128).map B).toArray)):=by kernel_rfl
theorem zen (b:List UInt8) (h:b.length≤128):splice ((zf 128).map B) 0 (b.map B)=(Zl 128 b).map B:=by
 unfold splice Zl
 rw [List.take_zero,List.nil_append,Nat.zero_add,yf,uI,← dz]
 congr 2
 show List.drop _ (wh 128 (0:UInt8))=wh _ 0
 rw [List.drop_replicate]
theorem W2 (b:List UInt8) (h:b.length≤128):(Zl 128 b).length=128:=by simp [Zl,zf];omega
theorem qD.only {w w':World} {c:Nat} (h:qD w) (ho:Only c w w') (hc:5≠c∧8≠c):qD w':=by
 have e1:sj w' 5=sj w 5:=by unfold sj;rw [ho.block _ hc.1]
 have e2:sj w' 8=sj w 8:=by unfold sj;rw [ho.block _ hc.2]
 exact ⟨by rw [e1];exact h.first.only ho hc.1,by rw [e2];exact h.rows.only ho hc.2⟩
theorem zg3 (ph:Nat) (h:List UInt64) (r:Value) (ao:Option Addr) (n cap:Nat) (b:List UInt8) (w:World) (hp:Blk w ph (nN h 0 r) 335) (hh:h.length=8) (hn:b.length=n) (hn1:n≤128) (hl:zr w ao (b.map B)) (hg:qD w) (hpf:5≠ph∧8≠ph) :
  Calls Tryz.prog 232 #[.pointer (some ⟨ph,0,none⟩),.slice ao n cap,.int .i64 n,.bool true] w fun e w'=>(∃ v,e=.returned v)∧Blk w' ph (nN (compress h (Zl 128 b) (wF n) 0 true) n r) 335∧zI ph w w':=by
 have HP:=znq hp
 have HH:=znq hh
 have HN:=znq hn
 have HLN:=znq hl
 have HG:=znq hg
 have HPF:=znq hpf
 have HGF:=znq (And.intro hg.first.lt hg.rows.lt)
 have HO:=znq (zI.refl ph w)
 have HSP:=znq (zen b (by omega))
 have HPL:=znq (W2 b (by omega))
 have hpl:=hp.lt
 have HCN:=znq (show (b.map B).length=Nat.min n 128 by rw [yf,hn];exact (Nat.min_eq_left hn1).symm)
 have HCF:=znq (show 0+(b.map B).length≤((zf 128).map B).length by rw [yf,yf,zd];omega)
 clear hp hh hn hl hg hpf
 go_enter Tryz.func232,Tryz.ntmps232
 go_wp2_with (refine ze 358 ((zf 128).map B) _ rfl rfl W1 rfl ?_)
 intro w1 hb1 nC
 have hlt1:=hb1.lt
 have HP:=znq (HP.znr.below nC HP.znr.lt)
 have HLN:=znq (HLN.znr.below nC)
 have HG:=znq (HG.znr.below nC)
 have HO:=znq (HO.znr.trans (zI.of_below nC))
 have HB:=znq hb1
 clear hb1 nC
 generalize hbo:w.heap.size=bo at *
 have HBO:=znq hbo
 clear hbo
 go_wp2_with (refine HB.znr.za6 0 (b.map B) rfl rfl rfl rfl Tryz.underlying22 zl (fun _=>rfl) HLN.znr HCN.znr HCF.znr (zg b) ?_)
 intro w2 hb2 ho2
 rw [HSP.znr] at hb2
 have HP:=znq (HP.znr.only ho2 (by omega))
 have HG:=znq (HG.znr.only ho2 (by have:=HGF.znr;have:=HBO.znr;omega))
 have HO:=znq (HO.znr.other ho2 (by rw [HBO.znr];exact xc _))
 have HB:=znq hb2
 clear hb2 ho2 HSP HCN HCF HLN
 have HR8:=znq (Blk.nA HP.znr 8 2 _ (zfw HH.znr 0 r))
 go_wp2_with (refine wpList_load_mid rfl 62 (.tmp 15) rfl ph 8 rfl _ _ HR8.znr Tryz.underlying62 rfl zq.2 ?_)
 go_wp2_with fail
 refine (zjw n _ (by omega)).mono ?_
 rintro e w3 ⟨rfl,mY⟩
 have hlt3:=HB.znr.lt
 have HP:=znq (HP.znr.below mY HP.znr.lt)
 have HB:=znq (HB.znr.below mY HB.znr.lt)
 have HG:=znq (HG.znr.below mY)
 have HO:=znq (HO.znr.trans (zI.of_below mY))
 clear mY HR8
 go_wp2_with (refine HP.znr.zaU (o:=8) (cs:=[.int .u64 n,.int .u64 0]) rfl rfl rfl rfl zq rfl (by rw [nK HH.znr];omega) (X5 _ _) ?_)
 intro w4 hb4 ho4
 rw [zem HH.znr] at hb4
 have HB:=znq (HB.znr.only ho4 (by omega))
 have HG:=znq (HG.znr.only ho4 HPF.znr)
 have HO:=znq (HO.znr.trans (zI.nH ho4))
 have HP:=znq hb4
 clear hb4 ho4
 have HHM:=znq (show (h.map L).length=8 by rw [yf];exact HH.znr)
 have HPM:=znq (show ((Zl 128 b).map B).length=128 by rw [yf];exact HPL.znr)
 have HCM:=znq (show ((compress h (Zl 128 b) (wF n) 0 true).map L).length=8 by rw [yf];exact kC _ _ _ _ _)
 have HLV:=znq (show (Value.agg #[Value.int .u64 (n:Int),Value.int .u64 0])=.agg #[L (wF n),L 0] from by
  have:(wF n).toNat=n:=UInt64.toNat_ofNat_of_lt' (by show n < 18446744073709551616;omega)
  simp [L,this])
 go_wp2_with fail
 refine zn [0,1,2,3,4,5,6,7,8,9,10,11,12,13,14] (by kernel_rfl) (by kernel_rfl) ?_
 rintro w5 rfl
 iterate 4 refine m1R ?_
 refine zt (Blk.nA HP.znr.drew 0 8 _ (W0 HH.znr n r)) HP.znr.drew.lt kI HHM.znr rfl rfl rfl rfl (fun K hK=>?_)
 go_simp;refine hK _ ?_;clear hK K
 refine zt HB.znr.drew.range HB.znr.drew.lt zbw HPM.znr rfl rfl rfl rfl (fun K hK=>?_)
 go_simp;refine hK _ ?_;clear hK K
 iterate 3 refine m1R ?_
 refine zt (Blk.nA HP.znr.drew 8 2 _ (zfw HH.znr n r)) HP.znr.drew.lt zq rfl rfl rfl rfl rfl (fun K hK=>?_)
 go_simp;refine hK _ ?_;clear hK K
 refine m1R ?_
 refine zi rfl rfl (by rfl) (fun K hK=>?_)
 go_simp
 rw [HLV.znr]
 refine (zby h (Zl 128 b) (wF n) 0 _ HH.znr HPL.znr (HG.znr.below (Below.refl _ _).drew)).mono ?_
 rintro e w6 ⟨rfl,mQ⟩
 have HP:=znq (HP.znr.drew.below mQ HP.znr.lt)
 have HO:=znq (HO.znr.drew.trans (zI.of_below mQ))
 go_simp
 refine hK _ _ mQ ?_
 clear hK K mQ
 refine mqR ?_
 refine zp rfl rfl (by rfl) (fun K hK=>?_)
 refine HP.znr.pG (o:=0) (cs:=(compress h (Zl 128 b) (wF n) 0 true).map L) rfl rfl rfl kI HCM.znr (by rw [nK HH.znr];omega) (QO _) (fun w7 hb7 ho7=>hK _ _ ?_)
 clear hK K
 rw [zel HH.znr (kC _ _ _ _ _)] at hb7
 have HO:=znq (HO.znr.trans (zI.nH ho7))
 have HP:=znq hb7
 clear hb7 ho7
 go_simp
 refine zo ?_
 go_wp2
 go_end0
 exact ⟨⟨_,rfl⟩,HP.znr,HO.znr⟩
end Go.Proofs.YtamdifhibogdiaaGreatDoor
namespace Go
def Exit.jumps (J:Nat→Act→World→Prop) (Q:Exit→Act→World→Prop):Exit→Act→World→Prop
 | .goto l,a,w=>J l a w
 | e,a,w=>Q e a w
def X6 (P:Program) (c:Code) (J:Nat→Act→World→Prop) (Q:Exit→Act→World→Prop):Code→Act→World→Prop
 | .seq (.label l') y,a,w=>xK c l'=some y∧J l' a w
 | .seq x y,a,w=>x.wp P (Exit.then (X6 P c J Q y) (Exit.jumps J Q)) a w
 | x,a,w=>x.wp P (Exit.jumps J Q) a w
section
variable {P:Program} {a:Act} {w:World} {Q:Exit→Act→World→Prop}
theorem Vx {c:Code} (J:Nat→Act→World→Prop) (μ:Nat→Act→World→Nat)
  (first:c.wp P (Exit.jumps J Q) a w)
  (pass:∀ l a w,J l a w→∃ rest,findLabel c l=some rest∧rest.wp P (Exit.jumps (fun l' a' w'=>J l' a' w'∧μ l' a' w' < μ l a w) Q) a w):(Code.scope c).wp P Q a w:=by
 intro b k cs
 have key:∀ n l a w rest,μ l a w=n→J l a w→findLabel c l=some rest→∃ e a' w',Q e a' w'∧Arrives P (lone (b.at a (.code rest::.inScope c::k)) cs w) b k cs e a' w':=by
  intro n
  induction n using l6 with
  | _ n ih =>
   intro l a w rest hn hJ hf
   obtain ⟨rest',hf',hp⟩:=pass l a w hJ
   rw [hf] at hf'
   obtain rfl:rest=rest':=uQ hf'
   obtain ⟨e,a₁,w₁,hq,harr⟩:=hp b (.inScope c::k) cs
   cases e with
   | normal=>exact ⟨.normal,a₁,w₁,hq,Steps.trans harr (.one step_inScope)⟩
   | exit id=>exact ⟨.exit id,a₁,w₁,hq,fun k' hk=>harr k' (by simp [exitTo,hk])⟩
   | goto l' =>
    obtain ⟨hJ',hlt⟩:=hq
    obtain ⟨zbT,hf2,_⟩:=pass l' a₁ w₁ hJ'
    have hg:gotoIn l' (.inScope c::k)=some (.code zbT::.inScope c::k):=by simp [gotoIn,hf2]
    obtain ⟨e₂,a₂,w₂,hq₂,harr₂⟩:=ih _ (by omega) l' a₁ w₁ zbT rfl hJ' hf2
    exact ⟨e₂,a₂,w₂,hq₂,.of_steps (harr _ hg) harr₂⟩
   | ret=>exact ⟨_,a₁,w₁,hq,harr⟩
   | panic ch=>exact ⟨_,a₁,w₁,hq,harr⟩
   | outgrown=>exact ⟨_,a₁,w₁,hq,harr⟩
 obtain ⟨e,a₁,w₁,hq,harr⟩:=first b (.inScope c::k) cs
 cases e with
 | normal=>exact ⟨.normal,a₁,w₁,hq,.head step_scope (Steps.trans harr (.one step_inScope))⟩
 | exit id=>exact ⟨.exit id,a₁,w₁,hq,fun k' hk=>.head step_scope (harr k' (by simp [exitTo,hk]))⟩
 | goto l' =>
  obtain ⟨zbT,hf2,_⟩:=pass l' a₁ w₁ hq
  have hg:gotoIn l' (.inScope c::k)=some (.code zbT::.inScope c::k):=by simp [gotoIn,hf2]
  obtain ⟨e₂,a₂,w₂,hq₂,harr₂⟩:=key _ l' a₁ w₁ zbT rfl hq hf2
  exact ⟨e₂,a₂,w₂,hq₂,.of_steps (.head step_scope (harr _ hg)) harr₂⟩
 | ret=>exact ⟨_,a₁,w₁,hq,.of_steps (.one step_scope) harr⟩
 | panic ch=>exact ⟨_,a₁,w₁,hq,.of_steps (.one step_scope) harr⟩
 | outgrown=>exact ⟨_,a₁,w₁,hq,.of_steps (.one step_scope) harr⟩
theorem Wb {c:Code} {J:Nat→Act→World→Prop} (H:∀ l a w y,J l a w→xK c l=some y→y.wp P (Exit.jumps J Q) a w):∀ (z:Code) (a:Act) (w:World),X6 P c J Q z a w→z.wp P (Exit.jumps J Q) a w:=by
 intro z
 induction z with
 | seq x y ihx ihy =>
  intro a w hp
  by_cases hl:∃ l',x=.label l'
  ·obtain ⟨l',rfl⟩:=hl
   simp only [X6] at hp
   exact wp_seq (wp_label (H _ _ _ _ hp.2 hp.1))
  ·have hp':x.wp P (Exit.then (X6 P c J Q y) (Exit.jumps J Q)) a w:=by
    cases x <;> first | exact hp | exact absurd ⟨_,rfl⟩ hl
   refine wp_seq (wp_mono hp' ?_)
   intro e a' w' hq
   cases e with
   | normal=>exact ihy _ _ hq
   | _=>exact hq
 | _=>intro a w hp;exact hp
theorem KH {c:Code} (J:Nat→Act→World→Prop) (μ:Nat→Act→World→Nat) (first:X6 P c J Q c a w)
  (pass:∀ l a w,J l a w→∃ y,xK c l=some y∧X6 P c (fun l' a' w'=>J l' a' w'∧μ l' a' w' < μ l a w) Q y a w):(Code.scope c).wp P Q a w:=by
 have stage:∀ n l a w y,μ l a w=n→J l a w→xK c l=some y→y.wp P (Exit.jumps (fun l' a' w'=>J l' a' w'∧μ l' a' w' < μ l a w) Q) a w:=by
  intro n
  induction n using l6 with
  | _ n ih =>
   intro l a w y hn hJ hy
   obtain ⟨y',hy',hs⟩:=pass l a w hJ
   rw [hy] at hy'
   obtain rfl:y=y':=uQ hy'
   refine Wb (fun l' a' w' z hJ' hz=>?_) y a w hs
   refine wp_mono (ih _ (by omega) l' a' w' z rfl hJ'.1 hz) ?_
   intro e a2 w2 hq
   cases e with
   | goto l2=>exact ⟨hq.1,Nat.lt_trans hq.2 hJ'.2⟩
   | _=>exact hq
 refine Vx J μ (Wb (fun l a w y hJ hy=>?_) c _ _ first) (fun l a w hJ=>?_)
 ·refine wp_mono (stage _ l a w y rfl hJ hy) ?_
  intro e a2 w2 hq
  cases e with
  | goto l2=>exact hq.1
  | _=>exact hq
 ·obtain ⟨y,hy,_⟩:=pass l a w hJ
  exact ⟨_,Z0 c l y hy,wp_seq (wp_skip (stage _ l a w y rfl hJ hy))⟩
@[go_sem] theorem Exit.zdv (J:Nat→Act→World→Prop) (a:Act) (w:World):Exit.jumps J Q .normal a w=Q .normal a w:=rfl
@[go_sem] theorem Exit.zeQ (J:Nat→Act→World→Prop) (id:Nat) (a:Act) (w:World):Exit.jumps J Q (.exit id) a w=Q (.exit id) a w:=rfl
@[go_sem] theorem Exit.tZ (J:Nat→Act→World→Prop) (a:Act) (w:World):Exit.jumps J Q .ret a w=Q .ret a w:=rfl
@[go_sem] theorem Exit.zeR (J:Nat→Act→World→Prop) (l:Nat) (a:Act) (w:World):Exit.jumps J Q (.goto l) a w=J l a w:=rfl
@[go_sem] theorem Exit.zdQ (J:Nat→Act→World→Prop) (ch:List PanicEntry) (a:Act) (w:World):Exit.jumps J Q (.panic ch) a w=Q (.panic ch) a w:=rfl
end
end Go
namespace Go.Proofs.YtamdifhibogdiaaGreatDoor
open RowKit Mem Ops Cells Oct Blake
attribute [local irreducible] zE zN zO zM yu
theorem zg4 {w w':World} {base:Nat} {e:TypeId} {size:Nat} {v:Value} {n c:Nat} {xs:List Value} (h:w.ownsRow base e size v n xs) (ho:Only c w w') (hc:c < base):w'.ownsRow base e size v n xs:=by
 refine ⟨h.1,h.2.imp id ?_⟩
 rintro ⟨g,cap,cur,hv,hg,hh,rest⟩
 exact ⟨g,cap,cur,hv,hg,by rw [ho.block g (by omega)];exact hh,rest⟩
theorem qR:(Tryz.prog.info? 5).map (fun i=>(i.zero,i.size,i.bytes))=some (some (.int .u8 0),1,1):=by kernel_rfl
theorem X7:Row Tryz.prog 335 12:=⟨by kernel_rfl,by kernel_rfl⟩
theorem jQ:(Tryz.prog.info? 22).map (·.size)=some 1:=by kernel_rfl
abbrev Jk (ph:Nat) (ao:Option Addr) (n cap:Nat) (us:Nat→Value):Act:={ tmps:=#[.pointer (some ⟨ph,0,none⟩),.slice ao n cap,us 2,us 3,us 4,us 5,us 6,us 7,us 8,us 9,us 10,us 11,us 12,us 13,us 14,us 15,us 16,us 17,us 18,us 19,us 20,us 21,us 22,us 23,us 24,us 25,us 26,us 27,us 28,us 29,us 30,us 31,us 32,us 33,us 34,us 35],defers:=[] }
def KL (ph:Nat) (h:List UInt64) (ao:Option Addr) (n cap:Nat) (b:List UInt8) (w:World) (x:Act) (wr:World):Prop :=
 ∃ (us:Nat→Value) (ao':Option Addr) (cap':Nat),x=Jk ph ao n cap us∧n≤cap'∧Hid (Blk wr ph (nN h 0 (.slice ao' n cap')) 335)∧Hid (zr wr ao' (b.map B))∧Hid (zI ph w wr)
theorem KL.intro {ph:Nat} {h:List UInt64} {ao:Option Addr} {n cap:Nat} {b:List UInt8} {w:World} {x:Act} {wr:World} (ao':Option Addr) (cap':Nat) (hx:x=Jk ph ao n cap (fun i=>x.tmps.getD i undef)) (hn:n≤cap')
  (h1:Blk wr ph (nN h 0 (.slice ao' n cap')) 335) (h2:zr wr ao' (b.map B)) (h3:zI ph w wr):KL ph h ao n cap b w x wr:=⟨_,ao',cap',hx,hn,h1,h2,h3⟩
theorem zg5 (ph:Nat) (h:List UInt64) (ao:Option Addr) (n cap:Nat) (b:List UInt8) (w:World) (hp:Blk w ph (nN h 0 (.slice none 0 0)) 335) (hh:h.length=8) (hn:b.length=n) (hn1:n≤128) (hl:zr w ao (b.map B)) :
  Calls Tryz.prog 205 #[.pointer (some ⟨ph,0,none⟩),.slice ao n cap] w fun e w'=>(∃ v,e=.returned v)∧∃ ao' cap',n≤cap'∧Blk w' ph (nN h 0 (.slice ao' n cap')) 335∧zr w' ao' (b.map B)∧zI ph w w':=by
 obtain ⟨i0,hi,hz0,hz1,hz2⟩:=info_parts qR
 have HI:=znq (And.intro hi (And.intro hz0 (And.intro hz1 hz2)))
 have HP:=znq hp
 have HH:=znq hh
 have HN:=znq hn
 have HL:=znq hl
 have hpl:=hp.lt
 clear hp hh hn hl hi hz0 hz1 hz2
 go_enter Tryz.func205,Tryz.ntmps205
 go_wp2_with fail
 refine yd 0 (KL ph h ao n cap b w) (fun _ _=>0) rfl ?_ ?_
 ·simp only [q9]
  have hc:=HP.znr.cell 10 _ (Jj HH.znr 0 (.slice none 0 0))
  go_wp2_with (at_builtin;refine yD rfl (.tmp 10) (.tmp 11) 22 rfl w.heap.size 5 i0 (.int .u8 0) 1 Tryz.underlying22 HI.znr.1 HI.znr.2.1 HI.znr.2.2.1 HI.znr.2.2.2 rfl _ 0 [] rfl (vL _ _ _ _) ao n cap (b.map B) rfl (by rw [yf];exact HN.znr) HL.znr (j9 b) (by unfold maxLen;omega) (by omega) (xc _) ?_)
  intro v2 w2 hown2 hg2
  obtain ⟨a2,c2,rfl,hc2,_,hl2⟩:=zw hown2
  have mV:Below w.heap.size w w2:=(Below.refl _ w).grown hg2 (xc _) (fun k h=>by cases h)
  have HP:=znq (HP.znr.below mV HP.znr.lt)
  have HL2:=znq hl2
  have HOWN:=znq hown2
  have HO:=znq (zI.of_below (b:=ph) mV)
  clear mV hg2 hown2 hl2 hc
  go_wp2_with (refine HP.znr.ry (v:=.slice a2 n c2) (i:=10) rfl rfl rfl rfl jQ rfl rfl (by rw [nK HH.znr];omega) ?_)
  intro w3 hb3 ho3
  rw [zbz HH.znr] at hb3
  have HOWN:=znq (zg4 HOWN.znr ho3 hpl)
  have HO:=znq (HO.znr.trans (zI.nH ho3))
  have HP:=znq hb3
  clear hb3 ho3
  go_wp2
  exact KL.intro a2 c2 rfl hc2 HP.znr (zr.nQ HOWN.znr) HO.znr
 ·rintro x wr ⟨us,ao',cap',rfl,hcap,HP,HL,HO⟩
  have hc:=HP.znr.cell 10 _ (Jj HH.znr 0 (.slice ao' n cap'))
  go_wp2
  rw [Exit.nZ]
  refine bodyPost_ret (results_none rfl _ _ _) rfl ?_
  exact ⟨⟨_,rfl⟩,ao',cap',hcap,HP.znr,HL.znr,HO.znr⟩
theorem zmc (w:World) (hg:qD w):Calls Tryz.prog 204 #[.int .i64 48,.slice none 0 0] w fun e w'=>∃ ph,e=.returned (.tuple #[.pointer (some ⟨ph,0,none⟩),.int .i64 0])∧w.heap.size≤ph∧Blk w' ph (nN Yp 0 (.slice none 0 0)) 335∧Below w.heap.size w w':=by
 have HG:=znq hg
 clear hg
 have z1:bits .xor .u64 16842752 0=16842752:=by decide
 have z2:bits .xor .u64 16842752 48=16842800:=by decide
 have z3:bits .xor .u64 7640891576956012808 16842800=7640891576939301176:=by decide
 go_enter Tryz.func204,Tryz.ntmps204
 go_wp2_with (first | (refine HG.znr.first.mP rfl rfl rfl kI rfl ?_) | (refine zh 335 _ (nN wN 0 (.slice none 0 0)) _ rfl rfl rfl (by kernel_rfl) ?_))
 intro w1 hb1 nC
 have HP:=znq hb1
 have HB:=znq nC
 clear hb1 nC
 generalize hph:w.heap.size=ph at *
 have HPH:=znq hph
 clear hph
 have hc1:=fun (x:zG w1.drew)=>(HP.znr.drew.below x.later HP.znr.drew.lt).cell 0 (.int .u64 7640891576956012808) rfl
 go_wp2_with fail
 refine zn [0,1,2,3,4,5,6,7,8,9,10,11,12,13,14,15,16,17] (by kernel_rfl) (by kernel_rfl) ?_
 rintro w2 rfl
 refine mqR ?_
 clear hc1
 refine zp rfl rfl (by rfl) (fun K hK=>?_)
 refine HP.znr.drew.nO (v:=.int .u64 7640891576939301176) (i:=0) rfl rfl rfl zR rfl rfl (by rw [nK rfl];omega) (fun w3 hb3 ho3=>hK _ _ ?_)
 clear hK K
 have hb3:Blk w3 ph (nN Yp 0 (.slice none 0 0)) 335:=hb3
 have HB:=znq (zk HB.znr.drew ho3 (xc _))
 have HP:=znq hb3
 clear hb3 ho3
 go_simp
 refine zo ?_
 go_wp2
 go_ret2
 exact ⟨ph,rfl,Nat.le_of_eq HPH.znr,HP.znr,by rw [HPH.znr];exact HB.znr⟩
def zfS:List Value:=(zjd 8).map L++[.int .u64 0,.int .u64 0,.slice none 0 0,.int .i64 0]
theorem Vy:(Tryz.prog.info? 335).map (·.zero)=some (some (.agg zfS.toArray)):=by kernel_rfl
theorem zg6 (h:List UInt64) (n:Nat) (ao:Option Addr) (m c:Nat):∀ v∈nN h n (.slice ao m c),v.oneCell'=true:=by
 intro v hv
 unfold nN at hv
 rcases List.mem_append.1 hv with hv | hv
 ·exact QO _ v hv
 ·simp at hv
  rcases hv with rfl | rfl | rfl | rfl <;> rfl
theorem zmd (ph:Nat) (ao:Option Addr) (n cap:Nat) (b:List UInt8) (w:World) (hp:Blk w ph (nN Yp 0 (.slice ao n cap)) 335) (hn:b.length=n) (hn1:n≤128) (hc:n≤cap) (hl:zr w ao (b.map B)) (hg:qD w) :
  Calls Tryz.prog 206 #[.pointer (some ⟨ph,0,none⟩)] w fun e w'=>∃ a c,e=.returned (.slice a 48 c)∧48≤c∧zr w' a ((Kb b).map B)∧Below w.heap.size w w':=by
 obtain ⟨i0,hi,hz0,hz1,hz2⟩:=info_parts qR
 have HI:=znq (And.intro hi (And.intro hz0 (And.intro hz1 hz2)))
 have HP:=znq hp
 have HN:=znq hn
 have HL:=znq hl
 have HG:=znq hg
 have hgf:=hg.first.lt
 have hgr:=hg.rows.lt
 have HS:=znq (show Kb b=(ju (compress Yp (Zl 128 b) (wF n) 0 true)).take 48∧True from ⟨by rw [← hn];rfl,trivial⟩)
 clear hp hn hl hg hi hz0 hz1 hz2
 have HHL:=znq (show Yp.length=8 from rfl)
 go_enter Tryz.func206,Tryz.ntmps206
 go_wp2_with (first | (refine HP.znr.mP rfl rfl rfl X7 (nK HHL.znr _ _) ?_) | (refine ze 335 zfS _ rfl rfl Vy rfl ?_))
 intro w1 hb1 nC
 have HG:=znq (HG.znr.below nC)
 have HT:=znq hb1
 have HB:=znq nC
 clear hb1 nC HP
 generalize hpt:w.heap.size=pt at *
 have HPT:=znq hpt
 clear hpt
 go_wp2_with (refine HT.znr.mM rfl rfl rfl (cs:=nN Yp 0 (.slice ao n cap)) rfl X7 rfl (nK HHL.znr _ _) (zg6 _ _ _ _ _) ?_)
 intro w2 hb2 ho2
 have HG:=znq (HG.znr.only ho2 (by omega))
 have HB:=znq (zk HB.znr ho2 (xc _))
 have HL:=znq (HL.znr.below (w':=w2) (by rw [HPT.znr];exact HB.znr))
 have HT:=znq hb2
 clear hb2 ho2
 have hc10:=HT.znr.cell 10 _ (Jj HHL.znr 0 (.slice ao n cap))
 go_wp2_with fail
 refine (zg3 pt Yp (.slice ao n cap) ao n cap b _ HT.znr HHL.znr HN.znr hn1 HL.znr HG.znr ⟨by omega,by omega⟩).mono ?_
 rintro e w3 ⟨⟨v3,rfl⟩,hb3,ho3⟩
 have HB:=znq (jP HB.znr ho3 (xc _) (dB HT.znr.lt))
 have HT:=znq hb3
 have HCL:=znq (kC Yp (Zl 128 b) (wF n) 0 true)
 generalize compress Yp (Zl 128 b) (wF n) 0 true=hs at *
 clear hb3 ho3 hc10 HL HG
 have HR:=znq (Blk.nA HT.znr 0 8 _ (W0 HCL.znr n (.slice ao n cap)))
 have HHM:=znq (show (hs.map L).length=8 by rw [yf];exact HCL.znr)
 go_wp2_with (at_make;refine wpList_make_own _ rfl _ _ 22 rfl w3.heap.size 5 i0 (.int .u8 0) 1 Tryz.underlying22 HI.znr.1 HI.znr.2.1 HI.znr.2.2.1 _ _ _ 64 rfl rfl ?m1 ?m2 ?m3 (xc _) ?_)
 case m1=>simp
 case m2=>rw [HI.znr.2.2.2];omega
 case m3=>unfold maxLen;omega
 intro w4 zbU zdw
 have nD:Below w3.heap.size w3 w4:=(Below.refl w3.heap.size w3).grown zdw (xc _) (fun k h=>by cases h)
 have HOWN:=znq zbU
 have zaV:pt < w3.heap.size:=HT.znr.lt
 have HB4:=znq nD
 have HR:=znq (Blk.nA (HT.znr.below nD HT.znr.lt) 0 8 _ (W0 HCL.znr n (.slice ao n cap)))
 clear zbU zdw nD
 go_wp2_with (refine wpList_load_mid rfl 333 (.tmp 20) rfl pt 0 rfl _ _ HR.znr Tryz.underlying333 rfl (by rw [HHM.znr];exact kI.2) ?_)
 go_wp2
 go_loopw [4,22] (fun v c wr=>∃ i:Nat,i≤8∧c=.int .i64 i∧Hid (wr.ownsRow w3.heap.size 5 1 v (8*i) ((ju (hs.take i)).map B))∧Hid (Below w3.heap.size w3 wr)) (fun _ c _=>8 - (intOf c).toNat)
 case atStart=>exact ⟨0,by omega,rfl,HOWN,HB4⟩
 case round =>
  clear HOWN HB4 HR
  obtain ⟨i,hi,rfl,HOWN,HB4⟩:=hrel
  by_cases hlt:i < 8
  ·have HST:=znq (show (ju (hs.take (i+1))).map B=(ju (hs.take i)).map B++(zz (at64 hs i)).map B∧True from ⟨by
    rw [List.take_add_one,z9 (l:=hs) (by rw [HCL.znr];exact hlt)]
    simp only [Option.toList]
    rw [Ka,uI],trivial⟩)
   have hix:=fun w=>qF (P:=Tryz.prog) w 333 60 8 (hs.map L).toArray .i64 i (L (at64 hs i)) Tryz.underlying333 (by kernel_rfl) zR (by simpa using yz (z9 (l:=hs) (i:=i) (by rw [HCL.znr];exact hlt))) hlt
   have HPL:=znq (zK (at64 hs i))
   generalize at64 hs i=x at *
   go_wp2_with fail
   refine (kH x _).mono ?_
   rintro e w5 ⟨rfl,mX⟩
   have HOWN:=znq (zm HOWN.znr mX)
   have HB4:=znq (HB4.znr.trans (mX.mono HB4.znr.size))
   clear mX hix
   go_wp2_with (refine ze 127 ((zf 8).map B) _ rfl rfl vJ rfl ?_)
   intro w6 hb6 mQ
   have HB6:=znq mQ
   have HN6:=znq hb6
   clear hb6 mQ
   go_wp2_with (refine HN6.znr.mM rfl rfl rfl (cs:=(zz x).map B) rfl kM (by simp [zd]) (by rw [yf];exact HPL.znr) (zg _) ?_)
   intro w7 hb7 ho7
   have ny:=zk HB6.znr ho7 (xc _)
   have HOWN:=znq (zm HOWN.znr ny)
   have HB4:=znq (HB4.znr.trans (ny.mono HB4.znr.size))
   have HN7:=znq hb7
   have HPM:=znq (show ((zz x).map B).length=8 by rw [yf];exact HPL.znr)
   clear hb7 ho7 HN6 HB6 ny
   go_wp2_with (at_builtin;refine yD rfl (.tmp 27) (.tmp 28) 22 rfl w3.heap.size 5 i0 (.int .u8 0) 1 Tryz.underlying22 HI.znr.1 HI.znr.2.1 HI.znr.2.2.1 HI.znr.2.2.2 rfl _ _ _ rfl HOWN.znr (some ⟨w5.heap.size,0,none⟩) 8 8 ((zz x).map B) rfl HPM.znr HN7.znr.lies (j9 _) (by unfold maxLen;omega) (by omega) HB4.znr.size ?_)
   intro v8 w8 p9 hg8
   rw [← HST.znr.1] at p9
   have HB8:=znq (z8 HB4.znr HOWN.znr hg8 (xc _) HB4.znr.size)
   have zjV:=znq (show w8.ownsRow w3.heap.size 5 1 v8 (8*(i+1)) ((ju (hs.take (i+1))).map B) from p9)
   clear p9 hg8
   go_wp2
   go_roundw
   case rel=>exact ⟨i+1,by omega,by go_num,zjV,HB8⟩
   case measure=>simp [intOf];omega
  ·obtain rfl:i=8:=by omega
   rw [List.take_of_length_le (by rw [HCL.znr];exact xc _)] at HOWN
   obtain ⟨va,vc,rfl,hvc,_,hlv⟩:=zw HOWN.znr
   have zjW:48≤vc:=by omega
   have HLV:=znq hlv
   have hc11:=(HT.znr.below HB4.znr HT.znr.lt).cell 11 _ (zjx HCL.znr n (.slice ao n cap))
   clear hlv
   go_wp2
   go_ret
   refine ⟨va,vc,rfl,zjW,?_,?_⟩
   ·rw [HS.znr.1,bN]
    exact HLV.znr.take 48
   ·rw [HPT.znr]
    exact HB.znr.trans (HB4.znr.mono (dB zaV))
end Go.Proofs.YtamdifhibogdiaaGreatDoor

/-
  Texts of this claim, one behind the other.
-/
import Derived.Test.YtamdifhibogdiaaGreatDoorX1
import Derived.Test.YtamdifhibogdiaaGreatDoorX22
import Derived.Test.YtamdifhibogdiaaGreatDoorX12
import Derived.Test.YtamdifhibogdiaaGreatDoorX21
import Derived.Test.YtamdifhibogdiaaGreatDoorX5
import Derived.Test.YtamdifhibogdiaaGreatDoorX6
import Derived.Test.YtamdifhibogdiaaGreatDoorX11
import Derived.Test.YtamdifhibogdiaaGreatDoorX10
import Derived.Test.YtamdifhibogdiaaGreatDoorX17
import Derived.Lib.Hide
set_option linter.unusedVariables false
set_option linter.unusedSimpArgs false
set_option maxHeartbeats 16000000
set_option maxRecDepth 100000
open List renaming drop_append→bK,drop_drop→fF,drop_eq_nil_of_le→Yx,drop_zero→bL,length_append→q8,length_drop→XQ,length_map→yf,mem_of_getElem?→xU,nil_append→uo,set_append_right→dD,take_append_of_le_length→uD,take_of_length_le→Y2
open Nat renaming le_refl→xc
open Option renaming some.inj→uQ
namespace Go.Proofs.YtamdifhibogdiaaGreatDoor
open RowKit Mem Ops Cells Oct Gf Trn Aes Ring Ezk Ezh Ezt Ezc ru Fl
attribute [local irreducible] zE zN zO zM yu
theorem QZ (ao:Option Addr) (n cap:Nat) (ks:List (List UInt8)) (w:World) (hn:ks.length=n) (hnb:n≤1099511627776) (hk:yB 16 w ao ks) :
  Calls Tryz.prog 338 #[.slice ao n cap] w fun e w'=>e=.returned (.agg ((plusB ks).map B).toArray)∧Below w.heap.size w w':=by
 have HN:=znq hn
 have HK:=znq hk
 have HS:=znq (St.start w)
 have HZ:=znq (zd 16)
 clear hn hk
 go_enter Tryz.func338,Tryz.ntmps338
 go_wp2_with (refine ze 59 ((zf 16).map B) _ rfl rfl zj rfl ?_)
 intro w1 hb hbel;have HS:=znq (HS.znr.push hb hbel);have hlt1:=hb.lt;clear hb hbel
 go_wp2_with (refine ze 59 ((zf 16).map B) _ rfl rfl zj rfl ?_)
 intro w2 hb hbel;have HS:=znq (HS.znr.push hb hbel);have hlt2:=hb.lt;clear hb hbel
 generalize hbb:w.heap.size=bb at *
 generalize w1.heap.size=br at *
 have HBB:=znq hbb
 clear hbb
 go_wp2
 go_loopw [9] (fun c wr=>∃ (i:Nat) (y:List UInt8),i≤n∧c=.int .i64 i∧Hid (y.length=16)∧Hid ((ks.drop i).foldl both y=plusB ks∧True)∧Hid (St w bb wr [(br,y.map B,59),(bb,(zf 16).map B,59)])) (fun c _=>n - (intOf c).toNat)
 case atStart=>exact ⟨0,zf 16,by omega,rfl,HZ,⟨rfl,trivial⟩,HS⟩
 case round =>
  clear HS
  obtain ⟨i,y,hi,rfl,HY,HE,HS⟩:=hrel
  have HYM:=znq (show (y.map B).length=16 by rw [yf];exact HY.znr)
  by_cases hlt:i < n
  ·have hget:ks[i]? = some (key ks i):=kB (by rw [HN.znr];exact hlt)
   obtain ⟨kb,nI,rfl,hkb,hr⟩:=(HK.znr.below (by rw [HBB.znr];exact HS.znr.bel)).range (by omega) hget
   have HKL:=znq (show (key ks i).length=16 from HK.znr.each _ (xU hget))
   have tY:=znq (show ((key ks i).map B).length=16 by rw [yf];exact HKL.znr)
   have HE:=znq (show (ks.drop (i+1)).foldl both (both y (key ks i))=plusB ks∧True from ⟨by
    rw [← HE.znr.1,List.drop_eq_getElem_cons (l:=ks) (i:=i) (by rw [HN.znr];exact hlt),List.foldl_cons]
    congr 2
    have:=List.getElem?_eq_getElem (l:=ks) (i:=i) (by rw [HN.znr];exact hlt)
    rw [hget] at this
    exact uQ this,trivial⟩)
   have HR:=znq hr
   generalize key ks i=k at *
   clear hget hr
   go_wp2_with (first | (refine wpList_load_mid rfl 59 (.tmp 11) rfl kb (nI+i*16) rfl _ _ HR.znr Tryz.underlying59 rfl (by rw [tY.znr];exact zc.2) ?_) | (refine ze 59 ((zf 16).map B) _ rfl rfl zj rfl ?_))
   intro w3 hb hbel;have hz1:=(HS.znr.get 0 rfl).lt;have hz0:=(HS.znr.get 1 rfl).lt;have HS:=znq (HS.znr.push hb hbel);have hlt3:=hb.lt;clear hb hbel
   generalize wr.heap.size=bk at *
   go_wp2_with (refine (HS.znr.get 0 rfl).mM rfl rfl rfl rfl zc (by simp [zd]) tY.znr (zg _) ?_)
   intro w4 hb4 ho4
   have HS:=znq (HS.znr.change 0 hb4 ho4 (by omega) (by simp;omega))
   clear hb4 ho4
   go_wp2
   go_loopw [13] (fun c wr=>∃ (j:Nat) (l:List UInt8),j≤16∧c=.int .i64 j∧Hid (l.length=16)∧Hid (∀ i,i < j→l[i]? = some (ya (at8 y i) (at8 k i)))∧Hid (∀ i,j≤i→l[i]? = y[i]?)∧Hid (St w bb wr [(bk,k.map B,59),(br,l.map B,59),(bb,(zf 16).map B,59)])) (fun c _=>16 - (intOf c).toNat)
   case atStart=>exact ⟨0,y,by omega,rfl,HY,fun i hi=>absurd hi (by omega),fun i _=>rfl,HS⟩
   case round =>
    clear HS
    obtain ⟨j,l,hj,rfl,HLL,HL1,HL2,HS⟩:=hrel
    by_cases hlt2:j < 16
    ·have hd:decide ((j:Int) < 16)=true:=by simp;omega
     have hx:l[j]? = some (at8 y j):=by rw [HL2.znr j (xc _)];exact q4 (by rw [HY.znr];omega)
     have hc1:=fun (x:zG wr.drew)=>((HS.znr.drew.later x.later).get 1 rfl).cell j _ (zU hx)
     have hc2:=fun (x:zG wr.drew)=>((HS.znr.drew.later x.later).get 0 rfl).cell j _ (zU (q4 (b:=k) (i:=j) (by rw [HKL.znr];omega)))
     clear hx
     go_wp2_with fail
     refine zn [0,1,2,3,4,5,6,7,8] (by kernel_rfl) (by kernel_rfl) ?_
     rintro w5 rfl
     refine mqR ?_
     clear hc1 hc2
     refine zp rfl rfl (by rfl) (fun K hK=>?_)
     refine (HS.znr.drew.get 1 rfl).nO (v:=B (ya (at8 y j) (at8 k j))) rfl rfl rfl zl rfl rfl (by rw [yf,HLL.znr];omega) (fun w6 hb6 ho6=>hK _ _ ?_)
     clear hK K
     rw [ym] at hb6
     have HS:=znq (HS.znr.drew.change 1 hb6 ho6 (by omega) (by simp;omega))
     clear ho6 hb6
     go_simp
     refine zo ?_
     go_wp2
     go_roundw
     case rel=>exact ⟨j+1,_,by omega,rfl,(by rw [List.length_set];exact HLL.znr),(kO hlt2 HLL.znr HL1.znr HL2.znr).1,(kO hlt2 HLL.znr HL1.znr HL2.znr).2,HS⟩
     case measure=>simp [intOf];omega
    ·obtain rfl:j=16:=by omega
     have hle:=YN HLL.znr HL1.znr
     rw [hle] at HS
     have HS:=znq HS.znr.tail
     clear hle
     go_wp2
     go_roundw
     case rel=>exact ⟨i+1,_,by omega,by go_num,zB _ _,HE,HS⟩
     case measure=>simp [intOf];omega
  ·obtain rfl:i=n:=by omega
   have HE:=znq (show y=plusB ks∧True from ⟨by rw [← HE.znr.1,Yx (by rw [HN.znr];omega)];rfl,trivial⟩)
   go_wp2_with (first | (refine (HS.znr.get 0 rfl).mP rfl rfl rfl zc HYM.znr ?_) | (refine (HS.znr.get 1 rfl).mM rfl rfl rfl rfl zc (by rw [yf];exact zd 16) HYM.znr (zg _) ?_))
   intro w6 hb6 ho6
   have mQ:=zk HS.znr.bel ho6 (by omega)
   go_wp2
   refine hb6.result rfl rfl rfl zc HYM.znr ⟨by rw [HE.znr.1],?_⟩
   rw [HBB.znr]
   exact mQ
end Go.Proofs.YtamdifhibogdiaaGreatDoor
namespace Go.Proofs.YtamdifhibogdiaaGreatDoor
open RowKit Mem Ops Cells Oct Trn Aes Hct
attribute [local irreducible] zE zN zO zM yJ
def hcV (kp:Nat) (h l:List UInt8):List Value:=.pointer (some ⟨kp,0,none⟩)::(h.map B++l.map B)
theorem XO {kp:Nat} {h l:List UInt8} (hh:h.length=16) (hl:l.length=16):(hcV kp h l).length=33:=by simp [hcV,hh,hl]
theorem zhC {kp:Nat} {h l:List UInt8} (hh:h.length=16):((hcV kp h l).drop 1).take 16=h.map B:=by
 show (h.map B++l.map B).take 16=_
 rw [uD (by rw [yf,hh];omega),Y2 (by rw [yf,hh];omega)]
theorem zlC {kp:Nat} {h l:List UInt8} (hh:h.length=16) (hl:l.length=16):((hcV kp h l).drop 17).take 16=l.map B:=by
 show ((h.map B++l.map B).drop 16).take 16=_
 rw [bK,Yx (by rw [yf,hh];omega),uo,yf,hh,bL,Y2 (by rw [yf,hl];omega)]
theorem zk4 {kp:Nat} {h l u:List UInt8} (hh:h.length=16) (hu:u.length=16):(hcV kp h l).take 1++u.map B++(hcV kp h l).drop (1+(u.map B).length)=hcV kp u l:=by
 rw [yf,hu]
 unfold hcV
 rw [show (1+16)=16+1 by rfl,List.drop_succ_cons,bK,Yx (by rw [yf,hh];omega),uo,yf,hh,bL]
 simp
theorem zk5 {kp:Nat} {h l u:List UInt8} (hh:h.length=16) (hl:l.length=16) (hu:u.length=16):(hcV kp h l).take 17++u.map B++(hcV kp h l).drop (17+(u.map B).length)=hcV kp h u:=by
 rw [yf,hu,Yx (by rw [XO hh hl];omega),List.append_nil]
 unfold hcV
 rw [show 17=16+1 by rfl,List.take_succ_cons,uD (by rw [yf,hh];omega),Y2 (by rw [yf,hh];omega)]
 rfl
theorem znc (kp:Nat):Tryz.prog.built 266 [(0,.pointer (some ⟨kp,0,none⟩))]=some (hcV kp (zf 16) (zf 16)).toArray:=by kernel_rfl
theorem zid:Tryz.prog.built 59 []=some ((zf 16).map B).toArray:=by kernel_rfl
theorem zie:Tryz.prog.built 59 [(0,.int .u8 1)]=some ((1::zf 15).map B).toArray:=by kernel_rfl
structure HCx (w:World) (cp kp q p kb nI n pK:Nat) (k:ziq):Prop where
 blk:Blk w cp (hcV kp k.h k.l) 266
 key:qV w kp q p k.ks kb nI n pK
theorem HCx.later {w w':World} {cp kp q p kb nI n pK:Nat} {k:ziq} (h:HCx w cp kp q p kb nI n pK k) (hl:Below w.heap.size w w'):HCx w' cp kp q p kb nI n pK k:=⟨h.blk.below hl h.blk.lt,h.key.later hl⟩
structure Z5 (w:World) (cp:Nat) (k:ziq):Prop where
 h16:k.h.length=16
 l16:k.l.length=16
 ex:∃ kp q p kb nI n pK,HCx w cp kp q p kb nI n pK k
theorem Z5.later {w w':World} {cp:Nat} {k:ziq} (h:Z5 w cp k) (hl:Below w.heap.size w w'):Z5 w' cp k:=by
 obtain ⟨kp,q,p,kb,nI,n,pK,hx⟩:=h.ex
 exact ⟨h.h16,h.l16,kp,q,p,kb,nI,n,pK,hx.later hl⟩
theorem zk6 (xb cp kp q p kb nI n pK:Nat) (k:ziq) (b:List UInt8) (w:World) (hx:w.cell? ⟨xb,0,none⟩=some (.pointer (some ⟨cp,0,none⟩))) (hk:HCx w cp kp q p kb nI n pK k) (hb:b.length=16) :
  Calls Tryz.prog 337 #[.agg (b.map B).toArray,.pointer (some ⟨xb,0,none⟩)] w fun e w'=>e=.returned (.agg ((enc k.ks b).map B).toArray)∧Below w.heap.size w w':=by
 have HK:=znq hk
 have HX:=znq (show w.cell? ⟨xb,0,none⟩=some (.pointer (some ⟨cp,0,none⟩))∧xb < w.heap.size from ⟨hx,block_lt_of_cell hx⟩)
 have HB:=znq (show b.length=16∧True from ⟨hb,trivial⟩)
 have HBV:=znq (show (b.map B).length=16 by rw [yf];exact hb)
 obtain ⟨v,hv⟩:∃ x,x=enc k.ks b:=⟨_,rfl⟩
 have HV:=znq (show enc k.ks b=v∧v.length=16 from ⟨hv.symm,by rw [hv];exact xJ _ _⟩)
 have HVV:=znq (show (v.map B).length=16 by rw [yf];exact HV.znr.2)
 rw [← hv]
 have HS:=znq (St.start w)
 clear hx hk hb hv
 go_enter Tryz.func337,Tryz.ntmps337
 go_wp2_with (refine zh 59 _ (b.map B) _ rfl rfl rfl rfl ?_)
 intro w1 hb hbel;have HS:=znq (HS.znr.push hb hbel);have hlt1:=hb.lt;clear hb hbel
 go_wp2_with (refine ze 59 ((zf 16).map B) _ rfl rfl zj rfl ?_)
 intro w2 hb hbel;have HS:=znq (HS.znr.push hb hbel);have hlt2:=hb.lt;clear hb hbel
 generalize hbb:w.heap.size=bb at *
 generalize w1.heap.size=b1 at *
 have HBB:=znq hbb
 have HBW:=znq (show ∀ wz L,St w bb wz L→Below w.heap.size w wz from fun wz L h=>by rw [hbb];exact h.bel)
 clear hbb
 have hc0:=fun (x:zG w2.drew)=>((HS.znr.drew.later x.later).bel.cell (p:=⟨xb,0,none⟩) HX.znr.2).trans HX.znr.1
 have hc1:=fun (x:zG w2.drew)=>(HK.znr.later (HBW.znr _ _ (HS.znr.drew.later x.later))).blk.cell 0 _ rfl
 go_wp2_with fail
 refine zn [0,1,2,3,4,5,6] (by kernel_rfl) (by kernel_rfl) ?_
 rintro w3 rfl
 refine mqR ?_
 clear hc0 hc1
 have HS:=znq HS.znr.drew
 refine zt (HS.znr.get 1 rfl).range (HS.znr.get 1 rfl).lt zc HBV.znr rfl rfl rfl rfl (fun K hK=>?_)
 go_simp;refine hK _ ?_;clear hK K
 refine zi rfl rfl (by rfl) (fun K hK=>?_)
 go_simp
 refine (K7 kp q p k.ks kb nI n pK b _ (HK.znr.later (HBW.znr _ _ HS.znr)).key HB.znr.1).mono ?_
 rintro e w4 ⟨rfl,hbel⟩
 have HS:=znq (HS.znr.later hbel)
 rw [HV.znr.1]
 go_simp
 refine hK _ _ hbel ?_
 clear hK K hbel
 refine zp rfl rfl (by rfl) (fun K hK=>?_)
 refine (HS.znr.get 0 rfl).mZ rfl rfl rfl zc (by rw [yf];exact zd 16) HVV.znr (zg _) (fun w7 hb7 ho7=>hK _ _ ?_)
 clear hK K
 have ny:=zk HS.znr.bel ho7 (by omega)
 go_simp
 refine zo ?_
 go_wp2
 refine hb7.result rfl rfl rfl zc HVV.znr ⟨rfl,?_⟩
 rw [HBB.znr]
 exact ny
theorem zk7 (xb cp kp q p kb nI n pK:Nat) (k:ziq) (b:List UInt8) (w:World) (hx:w.cell? ⟨xb,0,none⟩=some (.pointer (some ⟨cp,0,none⟩))) (hk:HCx w cp kp q p kb nI n pK k) (hb:b.length=16) :
  Calls Tryz.prog 336 #[.agg (b.map B).toArray,.pointer (some ⟨xb,0,none⟩)] w fun e w'=>e=.returned (.agg ((dec k.ks b).map B).toArray)∧Below w.heap.size w w':=by
 have HK:=znq hk
 have HX:=znq (show w.cell? ⟨xb,0,none⟩=some (.pointer (some ⟨cp,0,none⟩))∧xb < w.heap.size from ⟨hx,block_lt_of_cell hx⟩)
 have HB:=znq (show b.length=16∧True from ⟨hb,trivial⟩)
 have HBV:=znq (show (b.map B).length=16 by rw [yf];exact hb)
 obtain ⟨v,hv⟩:∃ x,x=dec k.ks b:=⟨_,rfl⟩
 have HV:=znq (show dec k.ks b=v∧v.length=16 from ⟨hv.symm,by rw [hv];exact kG _ _⟩)
 have HVV:=znq (show (v.map B).length=16 by rw [yf];exact HV.znr.2)
 rw [← hv]
 have HS:=znq (St.start w)
 clear hx hk hb hv
 go_enter Tryz.func336,Tryz.ntmps336
 go_wp2_with (refine zh 59 _ (b.map B) _ rfl rfl rfl rfl ?_)
 intro w1 hb hbel;have HS:=znq (HS.znr.push hb hbel);have hlt1:=hb.lt;clear hb hbel
 go_wp2_with (refine ze 59 ((zf 16).map B) _ rfl rfl zj rfl ?_)
 intro w2 hb hbel;have HS:=znq (HS.znr.push hb hbel);have hlt2:=hb.lt;clear hb hbel
 generalize hbb:w.heap.size=bb at *
 generalize w1.heap.size=b1 at *
 have HBB:=znq hbb
 have HBW:=znq (show ∀ wz L,St w bb wz L→Below w.heap.size w wz from fun wz L h=>by rw [hbb];exact h.bel)
 clear hbb
 have hc0:=fun (x:zG w2.drew)=>((HS.znr.drew.later x.later).bel.cell (p:=⟨xb,0,none⟩) HX.znr.2).trans HX.znr.1
 have hc1:=fun (x:zG w2.drew)=>(HK.znr.later (HBW.znr _ _ (HS.znr.drew.later x.later))).blk.cell 0 _ rfl
 go_wp2_with fail
 refine zn [0,1,2,3,4,5,6] (by kernel_rfl) (by kernel_rfl) ?_
 rintro w3 rfl
 refine mqR ?_
 clear hc0 hc1
 have HS:=znq HS.znr.drew
 refine zt (HS.znr.get 1 rfl).range (HS.znr.get 1 rfl).lt zc HBV.znr rfl rfl rfl rfl (fun K hK=>?_)
 go_simp;refine hK _ ?_;clear hK K
 refine zi rfl rfl (by rfl) (fun K hK=>?_)
 go_simp
 refine (zjk kp q p k.ks kb nI n pK b _ (HK.znr.later (HBW.znr _ _ HS.znr)).key HB.znr.1).mono ?_
 rintro e w4 ⟨rfl,hbel⟩
 have HS:=znq (HS.znr.later hbel)
 rw [HV.znr.1]
 go_simp
 refine hK _ _ hbel ?_
 clear hK K hbel
 refine zp rfl rfl (by rfl) (fun K hK=>?_)
 refine (HS.znr.get 0 rfl).mZ rfl rfl rfl zc (by rw [yf];exact zd 16) HVV.znr (zg _) (fun w7 hb7 ho7=>hK _ _ ?_)
 clear hK K
 have ny:=zk HS.znr.bel ho7 (by omega)
 go_simp
 refine zo ?_
 go_wp2
 refine hb7.result rfl rfl rfl zc HVV.znr ⟨rfl,?_⟩
 rw [HBB.znr]
 exact ny
end Go.Proofs.YtamdifhibogdiaaGreatDoor
namespace Go.Cells
open RowKit
theorem Blk.zcU {P:Program} {w:World} {b n:Nat} {vs:List Value} {ty':TypeId} (h:Blk w b vs ty') {fn:Func} {R:Ending→World→Prop} {a:Act} {p t:Tmp} {ty:TypeId} {v:Value}
  (hf:fn.results=#[.tmp t,.cell p ty]) (hd:a.defers=[]) (hp:a.tmps.getD p undef=.pointer (some ⟨b,0,none⟩)) (ht:a.tmps.getD t undef=v) (hr:Row P ty n) (hn:vs.length=n)
  (k:R (.returned (.tuple #[v,.agg vs.toArray])) w):bodyPost P fn R .ret a w:=by
 obtain ⟨d,hu,hd',hi⟩:=hr.open
 have hrun:(results fn a.tmps).run P w=.ok (.tuple #[v,.agg vs.toArray]) w:=by
  have hp':a.tmps[p]?.getD undef=.pointer (some ⟨b,0,none⟩):=by simpa using hp
  have ht':a.tmps[t]?.getD undef=v:=by simpa using ht
  have h1:=run_loadVar_row (P:=P) w b ty' ty vs.toArray (0,0) d h hu (by cases d <;> simp_all [TypeDesc.isRow]) (by rw [hi];simp [hn])
  simp [results,hf,hp',ht',asAddr,h1]
 exact bodyPost_ret hrun hd k
end Go.Cells
namespace Go.Proofs.YtamdifhibogdiaaGreatDoor
open RowKit Mem Ops Cells Oct Gf Trn Aes Blake pI Adi Cha Fl Ezh
attribute [local irreducible] zE zN zO zM yJ
theorem zif (kp q p:Nat) (ks:List (List UInt8)) (kb nI n cap:Nat) (z:UInt64×UInt64) (w:World) (hk:qV w kp q p ks kb nI n cap) :
  Calls Tryz.prog 303 #[.func (.func 171) #[.pointer (some ⟨kp,0,none⟩)] #[],.agg (zQ z).toArray] w fun e w'=>e=.returned (.agg (zQ (xo (enc ks (z7 z)))).toArray)∧Below w.heap.size w w':=by
 have HK:=znq hk
 obtain ⟨zb,hzb⟩:∃ x,x=z7 z:=⟨_,rfl⟩
 have HZ:=znq (show (zz z.1++zz z.2=zb∧z7 z=zb)∧zb.length=16 from ⟨⟨hzb.symm,hzb.symm⟩,by rw [hzb];exact zZ _⟩)
 obtain ⟨y,hy⟩:∃ y,y=enc ks zb:=⟨_,rfl⟩
 have HY:=znq (show enc ks zb=y∧y.length=16 from ⟨hy.symm,by rw [hy];exact xJ _ _⟩)
 have HYV:=znq (show (y.map B).length=16 by rw [yf];exact HY.znr.2)
 rw [HZ.znr.1.2,HY.znr.1]
 have HS:=znq (St.start w)
 clear hk hzb hy
 go_enter Tryz.func303,Tryz.ntmps303
 go_wp2_with (refine zh 62 _ (zQ z) _ rfl rfl rfl rfl ?_)
 intro w1 hb hbel;have HS:=znq (HS.znr.push hb hbel);have hlt1:=hb.lt;clear hb hbel
 go_wp2_with (refine ze 62 ([L 0,L 0]) _ rfl rfl zT rfl ?_)
 intro w2 hb hbel;have HS:=znq (HS.znr.push hb hbel);have hlt2:=hb.lt;clear hb hbel
 generalize hbb:w.heap.size=bb at *
 generalize w1.heap.size=b1 at *
 have HBB:=znq hbb
 clear hbb
 go_wp2_with (refine (HS.znr.get 1 rfl).mP rfl rfl rfl zq rfl ?_)
 refine (k5 z.1 z.2 _).mono ?_
 rintro e w3 ⟨rfl,hbel⟩
 rw [HZ.znr.1.1]
 have HS:=znq (HS.znr.later hbel)
 clear hbel
 go_wp2_with fail
 refine (K7 kp q p ks kb nI n cap zb _ (HK.znr.later (by rw [HBB.znr];exact HS.znr.bel)) HZ.znr.2).mono ?_
 rintro e w4 ⟨rfl,hbel⟩
 rw [HY.znr.1]
 have HS:=znq (HS.znr.later hbel)
 have h1:b1 < w4.heap.size:=HS.znr.ne _ (xU (i:=0) rfl)
 clear hbel
 go_wp2_with (refine ze 59 ((zf 16).map B) _ rfl rfl zj rfl ?_)
 intro w5 hb hbel
 have HS:=znq (HS.znr.push hb hbel)
 have zcO:=hb.lt
 clear hb hbel
 generalize w4.heap.size=b4 at *
 go_wp2_with (refine (HS.znr.get 0 rfl).mM rfl rfl rfl (cs:=y.map B) rfl zc (by rw [yf,zd]) HYV.znr (zg _) ?_)
 intro w6 hb ho
 have HS:=znq (HS.znr.change 0 hb ho (by omega) (by simp;omega))
 clear hb ho
 go_wp2_with fail
 refine (YL (some ⟨b4,0,none⟩) 16 16 y _ HY.znr.2 (by omega) (HS.znr.get 0 rfl).lies).mono ?_
 rintro e w7 ⟨rfl,hbel⟩
 have HS:=znq (HS.znr.later hbel)
 clear hbel
 go_wp2_with (refine (HS.znr.get 1 rfl).mM rfl rfl rfl (cs:=zQ (xo y)) rfl zq rfl rfl (zX _) ?_)
 intro w8 hb ho
 have HE:=znq (zk HS.znr.bel ho (by omega))
 clear ho
 go_wp2
 refine hb.result rfl rfl rfl zq rfl ⟨rfl,?_⟩
 rw [HBB.znr]
 exact HE.znr
theorem zig (kp q p:Nat) (ks:List (List UInt8)) (kb nI n cap:Nat) (z:UInt64×UInt64) (w:World) (hk:qV w kp q p ks kb nI n cap) :
  Calls Tryz.prog 303 #[.func (.func 304) #[.pointer (some ⟨kp,0,none⟩)] #[],.agg (zQ z).toArray] w fun e w'=>e=.returned (.agg (zQ (xo (dec ks (z7 z)))).toArray)∧Below w.heap.size w w':=by
 have HK:=znq hk
 obtain ⟨zb,hzb⟩:∃ x,x=z7 z:=⟨_,rfl⟩
 have HZ:=znq (show (zz z.1++zz z.2=zb∧z7 z=zb)∧zb.length=16 from ⟨⟨hzb.symm,hzb.symm⟩,by rw [hzb];exact zZ _⟩)
 obtain ⟨y,hy⟩:∃ y,y=dec ks zb:=⟨_,rfl⟩
 have HY:=znq (show dec ks zb=y∧y.length=16 from ⟨hy.symm,by rw [hy];exact kG _ _⟩)
 have HYV:=znq (show (y.map B).length=16 by rw [yf];exact HY.znr.2)
 rw [HZ.znr.1.2,HY.znr.1]
 have HS:=znq (St.start w)
 clear hk hzb hy
 go_enter Tryz.func303,Tryz.ntmps303
 go_wp2_with (refine zh 62 _ (zQ z) _ rfl rfl rfl rfl ?_)
 intro w1 hb hbel;have HS:=znq (HS.znr.push hb hbel);have hlt1:=hb.lt;clear hb hbel
 go_wp2_with (refine ze 62 ([L 0,L 0]) _ rfl rfl zT rfl ?_)
 intro w2 hb hbel;have HS:=znq (HS.znr.push hb hbel);have hlt2:=hb.lt;clear hb hbel
 generalize hbb:w.heap.size=bb at *
 generalize w1.heap.size=b1 at *
 have HBB:=znq hbb
 clear hbb
 go_wp2_with (refine (HS.znr.get 1 rfl).mP rfl rfl rfl zq rfl ?_)
 refine (k5 z.1 z.2 _).mono ?_
 rintro e w3 ⟨rfl,hbel⟩
 rw [HZ.znr.1.1]
 have HS:=znq (HS.znr.later hbel)
 clear hbel
 go_wp2_with fail
 refine (zjk kp q p ks kb nI n cap zb _ (HK.znr.later (by rw [HBB.znr];exact HS.znr.bel)) HZ.znr.2).mono ?_
 rintro e w4 ⟨rfl,hbel⟩
 rw [HY.znr.1]
 have HS:=znq (HS.znr.later hbel)
 have h1:b1 < w4.heap.size:=HS.znr.ne _ (xU (i:=0) rfl)
 clear hbel
 go_wp2_with (refine ze 59 ((zf 16).map B) _ rfl rfl zj rfl ?_)
 intro w5 hb hbel
 have HS:=znq (HS.znr.push hb hbel)
 have zcO:=hb.lt
 clear hb hbel
 generalize w4.heap.size=b4 at *
 go_wp2_with (refine (HS.znr.get 0 rfl).mM rfl rfl rfl (cs:=y.map B) rfl zc (by rw [yf,zd]) HYV.znr (zg _) ?_)
 intro w6 hb ho
 have HS:=znq (HS.znr.change 0 hb ho (by omega) (by simp;omega))
 clear hb ho
 go_wp2_with fail
 refine (YL (some ⟨b4,0,none⟩) 16 16 y _ HY.znr.2 (by omega) (HS.znr.get 0 rfl).lies).mono ?_
 rintro e w7 ⟨rfl,hbel⟩
 have HS:=znq (HS.znr.later hbel)
 clear hbel
 go_wp2_with (refine (HS.znr.get 1 rfl).mM rfl rfl rfl (cs:=zQ (xo y)) rfl zq rfl rfl (zX _) ?_)
 intro w8 hb ho
 have HE:=znq (zk HS.znr.bel ho (by omega))
 clear ho
 go_wp2
 refine hb.result rfl rfl rfl zq rfl ⟨rfl,?_⟩
 rw [HBB.znr]
 exact HE.znr
theorem KB (ao:Option Addr) (n cap:Nat) (b:List UInt8) (z:UInt64×UInt64) (w:World) (hn:b.length=n) (hc:n≤cap) (hn6:n≤100000) (hl:zr w ao (b.map B)) :
  Calls Tryz.prog 302 #[.slice ao n cap,.agg (zQ z).toArray] w fun e w'=>∃ v,e=.returned v∧w'.ownsRow w.heap.size 5 1 v (n+16) ((b++z7 z).map B)∧Below w.heap.size w w':=by
 have HN:=znq hn
 have HL:=znq hl
 obtain ⟨zb,hzb⟩:∃ x,x=z7 z:=⟨_,rfl⟩
 have HZ:=znq (show (zz z.1++zz z.2=zb∧z7 z=zb)∧zb.length=16 from ⟨⟨hzb.symm,hzb.symm⟩,by rw [hzb];exact zZ _⟩)
 have HZV:=znq (show (zb.map B).length=16 by rw [yf];exact HZ.znr.2)
 rw [HZ.znr.1.2]
 have HS:=znq (St.start w)
 clear hn hl hzb
 go_enter Tryz.func302,Tryz.ntmps302
 go_wp2_with (refine zh 62 _ (zQ z) _ rfl rfl rfl rfl ?_)
 intro w1 hb hbel;have HS:=znq (HS.znr.push hb hbel);have hlt1:=hb.lt;clear hb hbel
 generalize hbb:w.heap.size=bb at *
 have HBB:=znq hbb
 clear hbb
 go_wp2_with (refine (HS.znr.get 0 rfl).mP rfl rfl rfl zq rfl ?_)
 refine (k5 z.1 z.2 _).mono ?_
 rintro e w3 ⟨rfl,hbel⟩
 rw [HZ.znr.1.1]
 have HS:=znq (HS.znr.later hbel)
 have h1:bb < w3.heap.size:=HS.znr.ne _ (xU (i:=0) rfl)
 clear hbel
 go_wp2_with (refine ze 59 ((zf 16).map B) _ rfl rfl zj rfl ?_)
 intro w5 hb hbel
 have HS:=znq (HS.znr.push hb hbel)
 have zcO:=hb.lt
 clear hb hbel
 generalize w3.heap.size=b3 at *
 go_wp2_with (refine (HS.znr.get 0 rfl).mM rfl rfl rfl (cs:=zb.map B) rfl zc (by rw [yf,zd]) HZV.znr (zg _) ?_)
 intro w6 hb ho
 have HS:=znq (HS.znr.change 0 hb ho (by omega) (by simp;omega))
 clear hb ho
 go_wp2_with fail
 have HSS:=znq (show xY (w6.alloc (.cells #[.slice ao n cap,.slice (some ⟨b3,0,none⟩) 16 16] 22)) (some ⟨w6.heap.size,0,none⟩) [⟨ao,cap,b⟩,⟨some ⟨b3,0,none⟩,16,zb⟩] from by
  refine ⟨?_,?_⟩
  ·have:=(Blk.new w6 [.slice ao n cap,.slice (some ⟨b3,0,none⟩) 16 16] 22).lies
   simpa [Str.val,HN.znr,HZ.znr.2] using this
  ·intro s hs
   simp at hs
   rcases hs with rfl | rfl
   ·exact ⟨by rw [HN.znr];exact hc,(HL.znr.below (by rw [HBB.znr];exact HS.znr.bel)).below (zD _ _)⟩
   ·exact ⟨by rw [HZ.znr.2];exact xc _,(HS.znr.get 0 rfl).lies.below (zD _ _)⟩)
 have HS:=znq (HS.znr.later (zD w6 (.cells #[.slice ao n cap,.slice (some ⟨b3,0,none⟩) 16 16] 22)))
 have hz6:=HS.znr.size
 generalize hw7:w6.alloc (.cells #[.slice ao n cap,.slice (some ⟨b3,0,none⟩) 16 16] 22)=w7 at *
 clear hw7
 have HCA:=znq (show zin [⟨ao,cap,b⟩,⟨some ⟨b3,0,none⟩,16,zb⟩]=b++zb∧(b++zb).length=n+16 from ⟨by simp [zin],by rw [q8,HN.znr,HZ.znr.2]⟩)
 refine (YU (some ⟨w6.heap.size,0,none⟩) 2 2 [⟨ao,cap,b⟩,⟨some ⟨b3,0,none⟩,16,zb⟩] _ rfl (by omega) HSS.znr (by rw [HCA.znr.1,HCA.znr.2];omega)).mono ?_
 rintro e w8 ⟨v8,rfl,hown,hbel⟩
 rw [HCA.znr.1,HCA.znr.2] at hown
 have HO:=znq (yi hown hz6)
 have HE:=znq (HS.znr.bel.trans (hbel.mono hz6))
 clear hown hbel
 go_wp2
 go_ret
 exact ⟨_,rfl,by rw [HBB.znr];exact HO.znr,by rw [HBB.znr];exact HE.znr⟩
theorem Vj (cp:Nat) (ao:Option Addr) (n cap:Nat) (w:World) (h:16≤n):Calls Tryz.prog 298 #[.pointer (some ⟨cp,0,none⟩),.slice ao n cap] w fun e w'=>e=.returned (.int .i64 0)∧w=w':=by
 have d:decide ((n:Int) < 16)=false:=by simp;omega
 go_enter Tryz.func298,Tryz.ntmps298
 go_wp2
 go_ret
 exact ⟨rfl,rfl⟩
theorem za1:(Tryz.prog.info? 66).map (·.zero)=some (some (.agg ((zf 24).map B).toArray)):=by kernel_rfl
theorem zk8:fl 16=4625196817309499392:=by kernel_rfl
theorem Vk (ao:Option Addr) (n cap:Nat) (m:List UInt8) (w:World) (hn:m.length=n) (hc:n≤cap) (h16:16≤n) (hn6:n≤100000) (hl:zr w ao (m.map B)) :
  Calls Tryz.prog 299 #[.slice ao n cap] w fun e w'=>∃ v,e=.returned (.tuple #[v,.agg (zQ (xo (m.drop (n - 16)))).toArray])∧w'.ownsRow w.heap.size 5 1 v (n - 16) ((m.take (n - 16)).map B)∧Below w.heap.size w w':=by
 obtain ⟨a,ha⟩:∃ a,a=n - 16:=⟨_,rfl⟩
 have ea:(n:Int) - 16=(a:Int):=by omega
 have HN:=znq hn
 have HL:=znq hl
 have HC1:=znq (show wC 0 (fl a) n=some (0,a) from by have:=jR 0 a n (by omega) (by omega);rw [Qc] at this;exact this)
 have HC2:=znq (show wC (fl a) 4625196817309499392 n=some (a,16) from by have:=jR a 16 n (by omega) (by omega);rw [zk8] at this;exact this)
 have HTD:=znq (show (m.drop 0).take a=m.take a∧(m.drop a).take 16=m.drop a from ⟨rfl,Y2 (by rw [XQ,hn];omega)⟩)
 have HDL:=znq (show (m.drop a).length=16 from by rw [XQ,hn];omega)
 rw [← ha]
 have HS:=znq (St.start w)
 have zlD:floatOfInt .f64 (a:Int)=fl a:=rfl
 clear hn hl ha
 go_enter Tryz.func299,Tryz.ntmps299
 go_wp2_with (refine ze 62 ([L 0,L 0]) _ rfl rfl zT rfl ?_)
 intro w1 hb hbel;have HS:=znq (HS.znr.push hb hbel);have hlt1:=hb.lt;clear hb hbel
 generalize hbb:w.heap.size=bb at *
 have HBB:=znq hbb
 clear hbb
 go_wp2_with fail
 refine (zb9 ao n cap m 0 (fl a) 0 a _ HN.znr hc (by omega) (HL.znr.below (by rw [HBB.znr];exact HS.znr.bel)) HC1.znr).mono ?_
 rintro e w2 ⟨v2,rfl,hown,hbel⟩
 rw [HTD.znr.1] at hown
 have HO:=znq (yi hown HS.znr.size)
 obtain ⟨a2,c2,rfl,_,_,_⟩:=zw hown
 have HS:=znq (HS.znr.later hbel)
 clear hown hbel zlD
 go_wp2_with fail
 refine (zb9 ao n cap m (fl a) 4625196817309499392 a 16 _ HN.znr hc (by omega) (HL.znr.below (by rw [HBB.znr];exact HS.znr.bel)) HC2.znr).mono ?_
 rintro e w3 ⟨v3,rfl,hown,hbel⟩
 rw [HTD.znr.2] at hown
 obtain ⟨a3,c3,rfl,_,_,hl3⟩:=zw hown
 have HL3:=znq hl3
 have HO:=znq (zm HO.znr hbel)
 have HS:=znq (HS.znr.later hbel)
 clear hown hbel hl3
 go_wp2_with fail
 refine (YL a3 16 c3 (m.drop a) _ HDL.znr (by omega) HL3.znr).mono ?_
 rintro e w4 ⟨rfl,hbel⟩
 have HO:=znq (zm HO.znr hbel)
 have HS:=znq (HS.znr.later hbel)
 clear hbel
 go_wp2_with (refine (HS.znr.get 0 rfl).mM rfl rfl rfl (cs:=zQ (xo (m.drop a))) rfl zq rfl rfl (zX _) ?_)
 intro w5 hb ho
 have HO:=znq (zu HO.znr (HS.znr.get 0 rfl) (by decide) ho)
 have HE:=znq (zk HS.znr.bel ho (by omega))
 clear ho
 obtain ⟨a2',c2',hv,_,_,_⟩:=zw HO.znr
 go_wp2
 refine hb.zcU (v:=.slice a2 a c2) rfl rfl rfl rfl zq rfl ⟨_,rfl,by rw [HBB.znr];exact HO.znr,by rw [HBB.znr];exact HE.znr⟩
theorem KC (cp:Nat) (key:List UInt8) (rest:List Value) (z:UInt64×UInt64) (ao:Option Addr) (n cap:Nat) (b:List UInt8) (w:World) (hb:Blk w cp (key.map B++rest) 259) (hk:key.length=32) (hn:b.length=n) (hc:n≤cap) (hn6:n≤1000000) (hl:zr w ao (b.map B)) :
  Calls Tryz.prog 301 #[.pointer (some ⟨cp,0,none⟩),.agg (zQ z).toArray,.slice ao n cap] w fun e w'=>∃ v,e=.returned v∧w'.ownsRow w.heap.size 5 1 v n ((jT key (z7 z++[1]++zf 7) 12 b).map B)∧Below w.heap.size w w':=by
 have HCB:=znq hb
 have hcp:=hb.lt
 have HK:=znq (show key.length=32∧True from ⟨hk,trivial⟩)
 have HKV:=znq (show (key.map B).length=32 by rw [yf];exact hk)
 have HKT:=znq (show ((key.map B++rest).drop 0).take 32=key.map B from by rw [bL,uD (by rw [yf,hk];omega),Y2 (by rw [yf,hk];omega)])
 have HN:=znq hn
 have HL:=znq hl
 obtain ⟨zb,hzb⟩:∃ x,x=z7 z:=⟨_,rfl⟩
 have HZ:=znq (show (zz z.1++zz z.2=zb∧z7 z=zb)∧zb.length=16 from ⟨⟨hzb.symm,hzb.symm⟩,by rw [hzb];exact zZ _⟩)
 have HZV:=znq (show (zb.map B).length=16 by rw [yf];exact HZ.znr.2)
 have HSP:=znq (show (splice (zf 24) 0 zb).set 16 1=zb++[1]++zf 7∧(splice (zf 24) 0 zb).length=24 from by
  have e:splice (zf 24) 0 zb=zb++zf 8:=by
   unfold splice
   rw [List.take_zero,uo,Nat.zero_add,HZ.znr.2]
   rfl
  rw [e]
  refine ⟨?_,by rw [q8,HZ.znr.2,zd]⟩
  rw [dD _ _ (by rw [HZ.znr.2];exact xc _),HZ.znr.2,List.append_assoc]
  rfl)
 rw [HZ.znr.1.2]
 obtain ⟨nn,hnn⟩:∃ x,x=zb++[1]++zf 7:=⟨_,rfl⟩
 have HNN:=znq (show nn.length=24∧True from ⟨by rw [hnn,q8,q8,HZ.znr.2,zd];rfl,trivial⟩)
 have HNV:=znq (show (nn.map B).length=24 by rw [yf];exact HNN.znr.1)
 rw [← hnn] at HSP ⊢
 obtain ⟨s1,hs1⟩:∃ x,x=splice (zf 24) 0 zb:=⟨_,rfl⟩
 have HSP0:=znq (show splice (zf 24) 0 zb=s1∧True from ⟨hs1.symm,trivial⟩)
 rw [← hs1] at HSP
 clear hs1
 have HS:=znq (St.start w)
 clear hb hk hn hl hzb hnn
 go_enter Tryz.func301,Tryz.ntmps301
 go_wp2_with (refine zh 62 _ (zQ z) _ rfl rfl rfl rfl ?_)
 intro w1 hb hbel
 have HCB:=znq (HCB.znr.below hbel hcp)
 have HS:=znq (HS.znr.push hb hbel)
 have hlt1:=hb.lt
 clear hb hbel
 generalize hbb:w.heap.size=bb at *
 have HBB:=znq hbb
 clear hbb
 go_wp2_with (refine ze 66 ((zf 24).map B) _ rfl rfl za1 rfl ?_)
 intro w2 hb hbel
 have HCB:=znq (HCB.znr.below hbel HCB.znr.lt)
 have HS:=znq (HS.znr.push hb hbel)
 have hlt2:=hb.lt
 clear hb hbel
 generalize w1.heap.size=b1 at *
 go_wp2_with (refine (HS.znr.get 1 rfl).mP rfl rfl rfl zq rfl ?_)
 refine (k5 z.1 z.2 _).mono ?_
 rintro e w3 ⟨rfl,hbel⟩
 rw [HZ.znr.1.1]
 have HCB:=znq (HCB.znr.below hbel HCB.znr.lt)
 have HS:=znq (HS.znr.later hbel)
 have h1:b1 < w3.heap.size:=HS.znr.ne _ (xU (i:=0) rfl)
 clear hbel
 go_wp2_with (refine ze 59 ((zf 16).map B) _ rfl rfl zj rfl ?_)
 intro w4 hb hbel
 have hcp3:cp < w3.heap.size:=HCB.znr.lt
 have HCB:=znq (HCB.znr.below hbel HCB.znr.lt)
 have HS:=znq (HS.znr.push hb hbel)
 have zaE:=hb.lt
 clear hb hbel
 generalize w3.heap.size=b3 at *
 go_wp2_with (refine (HS.znr.get 0 rfl).mM rfl rfl rfl (cs:=zb.map B) rfl zc (by rw [yf,zd]) HZV.znr (zg _) ?_)
 intro w5 hb ho
 have HCB:=znq (HCB.znr.only ho (by omega))
 have HS:=znq (HS.znr.change 0 hb ho (by omega) (by simp;omega))
 clear hb ho
 go_wp2_with fail
 refine zn [0,1,2] (by kernel_rfl) (by kernel_rfl) ?_
 rintro w6 rfl
 have HCB:=znq HCB.znr.drew
 have HS:=znq HS.znr.drew
 refine mqR ?_
 refine zp rfl rfl (by rfl) (fun K hK=>?_)
 refine (HS.znr.get 1 rfl).rC 0 (zb.map B) rfl rfl rfl Tryz.underlying22 zl (fun _=>rfl) (HS.znr.get 0 rfl).lies (by rw [HZV.znr];rfl) (by rw [HZV.znr,yf,zd];omega) (zg _) (fun w7 hb ho=>hK _ _ ?_)
 clear hK K
 rw [xV,HSP0.znr.1] at hb
 have HCB:=znq (HCB.znr.only ho (by omega))
 have HS:=znq (HS.znr.change 1 hb ho (by omega) (by simp;omega))
 clear hb ho
 go_simp
 refine zo ?_
 go_wp2_with (refine (HS.znr.get 1 rfl).ry (i:=16) (v:=B 1) rfl rfl rfl rfl zl rfl rfl (by rw [yf,HSP.znr.2];omega) ?_)
 intro w8 hb ho
 rw [ym,HSP.znr.1] at hb
 have HCB:=znq (HCB.znr.only ho (by omega))
 have HS:=znq (HS.znr.change 1 hb ho (by omega) (by simp;omega))
 clear hb ho
 go_wp2_with fail
 refine zn [0,1,2,3,4,5,6,7,8,9,10,11] (by kernel_rfl) (by kernel_rfl) ?_
 rintro w9 rfl
 have HCB:=znq HCB.znr.drew
 have HS:=znq HS.znr.drew
 refine mqR ?_
 refine zt (Blk.nA HCB.znr 0 32 _ HKT.znr) HCB.znr.lt yP HKV.znr rfl rfl rfl rfl (fun K hK=>?_)
 go_simp;refine hK _ ?_;clear hK K
 refine zt (HS.znr.get 1 rfl).range (HS.znr.get 1 rfl).lt zdh HNV.znr rfl rfl rfl rfl (fun K hK=>?_)
 go_simp;refine hK _ ?_;clear hK K
 refine mqR ?_
 refine zi rfl rfl (by rfl) (fun K hK=>?_)
 go_simp
 refine (zdi key nn 12 ao n cap b _ HK.znr.1 HNN.znr.1 (.inr (.inl rfl)) HN.znr hc hn6 (HL.znr.below (by rw [HBB.znr];exact HS.znr.bel))).mono ?_
 rintro e w10 ⟨v10,rfl,hown,hbel⟩
 have HO:=znq (yi hown HS.znr.size)
 have HS:=znq (HS.znr.later hbel)
 go_simp
 refine hK _ _ hbel ?_
 clear hK K hbel hown
 refine mqR ?_
 refine zo ?_
 go_wp2
 go_ret
 exact ⟨_,rfl,by rw [HBB.znr];exact HO.znr,by rw [HBB.znr];exact HS.znr.bel⟩
end Go.Proofs.YtamdifhibogdiaaGreatDoor
namespace Go.Proofs.YtamdifhibogdiaaGreatDoor
open RowKit Mem Ops Cells Oct Gf Trn Aes Blake pI Adi Cha Fl Ezh
attribute [local irreducible] zE zN zO zM yJ
theorem zhD {l:List UInt8} (h:l.length=32):∃ a0 a1 a2 a3 a4 a5 a6 a7 a8 a9 a10 a11 a12 a13 a14 a15 a16 a17 a18 a19 a20 a21 a22 a23 a24 a25 a26 a27 a28 a29 a30 a31,l=[a0,a1,a2,a3,a4,a5,a6,a7,a8,a9,a10,a11,a12,a13,a14,a15,a16,a17,a18,a19,a20,a21,a22,a23,a24,a25,a26,a27,a28,a29,a30,a31]:=by
 match l,h with
 | [a0,a1,a2,a3,a4,a5,a6,a7,a8,a9,a10,a11,a12,a13,a14,a15,a16,a17,a18,a19,a20,a21,a22,a23,a24,a25,a26,a27,a28,a29,a30,a31],_=>exact ⟨_,_,_,_,_,_,_,_,_,_,_,_,_,_,_,_,_,_,_,_,_,_,_,_,_,_,_,_,_,_,_,_,rfl⟩
def acV (key:List UInt8) (vs:List Value):List Value:=key.map B++vs
theorem zk9 {key:List UInt8} (h:key.length=32):Tryz.prog.built 259 [(0,.agg (key.map B).toArray)]=some (acV key [.pointer none,.pointer none]).toArray:=by
 obtain ⟨a0,a1,a2,a3,a4,a5,a6,a7,a8,a9,a10,a11,a12,a13,a14,a15,a16,a17,a18,a19,a20,a21,a22,a23,a24,a25,a26,a27,a28,a29,a30,a31,rfl⟩:=zhD h
 kernel_rfl
theorem zla:Tryz.prog.built 66 [(0,.int .u8 1)]=some ((1::zf 23).map B).toArray:=by kernel_rfl
theorem VR (w:World) (a:Option Addr) (n c:Nat) (h:32≤n):(Instr.arrayAt 255 (.slice a n c)).run Tryz.prog w=.ok (.pointer a) w:=by
 simp [Instr.arrayAt,run_underlying Tryz.underlying255,show ¬ n < 32 by omega]
theorem VS:(Tryz.prog.info? 256).map (·.size)=some 1:=by kernel_rfl
theorem Vl:(Tryz.prog.info? 257).map (·.size)=some 1:=by kernel_rfl
theorem yB.up {S:Nat→Prop} {n:Nat} {w w':World} {kb nI:Nat} {ks:List (List UInt8)} (h:yB n w (some ⟨kb,nI,none⟩) ks) (hu:Up S w w') (hb:S kb):yB n w' (some ⟨kb,nI,none⟩) ks:=by
 refine ⟨h.each,fun j u huu=>?_⟩
 obtain ⟨b,off,e,hc⟩:=h.lies j u huu
 cases e
 refine ⟨kb,nI,rfl,?_⟩
 have hbk:=hu.block kb hb (block_lt_of_cell hc)
 simp only [World.cell?] at hc ⊢
 rw [hbk]
 exact hc
theorem qV.up {S:Nat→Prop} {w w':World} {kp q p:Nat} {ks:List (List UInt8)} {kb nI n cap:Nat} (h:qV w kp q p ks kb nI n cap) (hu:Up S w w') (h1:S kp) (h2:S q) (h3:S p) (h4:S kb):qV w' kp q p ks kb nI n cap :=
 ⟨⟨h.tab.boxes.up hu h3,h.tab.tab.up hu h2⟩,h.len,h.two,h.zbS,h.most,yB.up h.rows hu h4,h.blk.up hu h1⟩
structure Vm (w:World) (cp:Nat) (k:kV):Prop where
 zeB:k.key.length=32
 ex:∃ kp q p kb nI n pK hb,Blk w cp (acV k.key [.pointer (some ⟨kp,0,none⟩),.pointer (some ⟨hb,0,none⟩)]) 259∧qV w kp q p k.ks kb nI n pK∧Y3 w hb k.kt k.km k.ws
theorem Vm.later {w w':World} {cp:Nat} {k:kV} (h:Vm w cp k) (hb:Below w.heap.size w w'):Vm w' cp k:=by
 obtain ⟨kp,q,p,kb,nI,n,pK,hb',h1,h2,h3⟩:=h.ex
 exact ⟨h.zeB,kp,q,p,kb,nI,n,pK,hb',h1.below hb h1.lt,h2.later hb,h3.below hb⟩
theorem zlb (q p:Nat) (ao:Option Addr) (cap:Nat) (key:List UInt8) (w:World) (hk:key.length=32) (hc:32≤cap) (hl:zr w ao (key.map B)) (ht:Tab w q p) :
  Calls Tryz.prog 132 #[.pointer (some ⟨q,0,none⟩),.slice ao 32 cap] w fun e w'=>∃ cp,e=.returned (.tuple #[.pointer (some ⟨cp,0,none⟩),.int .i64 0])∧Std w.heap.size [q,p] w' (fun w''=>Vm w'' cp (zkf key))∧Below w.heap.size w w':=by
 have HK:=znq (show key.length=32∧True from ⟨hk,trivial⟩)
 have HKV:=znq (show (key.map B).length=32 by rw [yf];exact hk)
 have HT:=znq ht
 obtain ⟨b,off,rfl,hbw,hcell⟩:=hl.at (by intro e;have:=congrArg List.length e;rw [yf,hk] at this;cases this)
 have HRA:=znq (show w.rangeAt b off (key.map B) from fun j v hv=>hcell j v hv)
 have HS:=znq (St.start w)
 have har:=fun (w':World)=>VR w' (some ⟨b,off,none⟩) 32 cap (by omega)
 obtain ⟨zs,hzs⟩:∃ z,z=zf 1136:=⟨_,rfl⟩
 have HZS:=znq (show (zf 1136=zs∧zs.length=1136)∧zs.map B=List.replicate 1136 (Value.int .u8 0) from ⟨⟨hzs.symm,by rw [hzs,zd]⟩,by rw [hzs];unfold zf;rw [List.map_replicate];rfl⟩)
 obtain ⟨n24,zhE⟩:∃ x:List UInt8,x=1::zf 23:=⟨_,rfl⟩
 have HN24:=znq (show (1::zf 23=n24∧n24.length=24)∧Tryz.prog.built 66 [(0,.int .u8 1)]=some (n24.map B).toArray from ⟨⟨zhE.symm,by rw [zhE,List.length_cons,zd]⟩,by rw [zhE];exact zla⟩)
 obtain ⟨own,hown⟩:∃ x,x=jT key n24 12 zs:=⟨_,rfl⟩
 have HOWN:=znq (show (jT key n24 12 zs=own∧own.length=1136)∧zaj key=own from ⟨⟨hown.symm,by rw [hown,vy,hzs,zd]⟩,by rw [hown,zhE,hzs];rfl⟩)
 clear hk hl ht hcell hzs zhE hown
 go_enter Tryz.func132,Tryz.ntmps132
 go_wp2_with (first | (refine wpList_load_mid rfl 255 (.tmp 17) rfl b off rfl (key.map B) _ HRA.znr Tryz.underlying255 rfl (by rw [HKV.znr];exact yP.2) ?_) | (refine xZ 259 _ _ _ rfl rfl rfl (zk9 HK.znr.1) ?_) | (refine zh 259 _ (acV key [.pointer none,.pointer none]) _ rfl rfl rfl rfl ?_))
 intro w1 hb hbel
 have HS:=znq (HS.znr.push hb hbel)
 clear hb hbel har
 generalize hbb:w.heap.size=bb at *
 have HBB:=znq hbb
 clear hbb
 have zlE:=znq (show ∀ vs:List Value,((acV key vs).drop 0).take 32=key.map B∧(acV key vs).length=32+vs.length from fun vs=>⟨by unfold acV;rw [bL,uD (by rw [HKV.znr];omega),Y2 (by rw [HKV.znr];omega)],by unfold acV;rw [q8,HKV.znr]⟩)
 go_wp2_with fail
 refine zn [0,1,2,3,4,5,6,7,8,9,10,11] (by kernel_rfl) (by kernel_rfl) ?_
 rintro w2 rfl
 have HS:=znq HS.znr.drew
 refine mqR ?_
 refine zt (Blk.nA (HS.znr.get 0 rfl) 0 32 _ (zlE.znr _).1) (HS.znr.get 0 rfl).lt yP HKV.znr rfl rfl rfl rfl (fun K hK=>?_)
 go_simp;refine hK _ ?_;clear hK K
 refine kQ rfl rfl (by rfl) 66 _ _ _ rfl rfl HN24.znr.2 (fun K hK=>?_)
 go_simp
 refine hK _ ?_
 clear hK K
 refine zi rfl rfl (by rfl) (fun K hK=>?_)
 refine zpb 22 5 (.int .u8 0) 1 1136 rfl rfl rfl Tryz.underlying22 yq rfl rfl rfl (by omega) (by unfold maxLen;omega) (fun w5 hb hbel=>?_)
 rw [← HZS.znr.2] at hb
 refine hK _ _ hbel ?_
 clear hK K
 have hbb1:bb < w1.drew.heap.size:=HS.znr.ne _ (xU (i:=0) rfl)
 have HS:=znq (HS.znr.push hb hbel)
 clear hb hbel
 generalize w1.drew.heap.size=b1 at *
 go_simp
 refine zi rfl rfl (by rfl) (fun K hK=>?_)
 go_simp
 refine (zdi key n24 12 (some ⟨b1,0,none⟩) 1136 1136 zs _ HK.znr.1 HN24.znr.1.2 (.inr (.inl rfl)) HZS.znr.1.2 (by omega) (by omega) (HS.znr.get 0 rfl).lies).mono ?_
 rintro e w6 ⟨v6,rfl,hown,hbel⟩
 rw [HOWN.znr.1.1] at hown
 obtain ⟨a6,c6,rfl,hc6,_,hl6⟩:=zw hown
 have HL6:=znq hl6
 have HOR:=znq hown
 have HS:=znq (HS.znr.later hbel)
 go_simp
 refine hK _ _ hbel ?_
 clear hK K hbel hown hl6
 refine mqR ?_
 refine zo ?_
 have hsl:=fun (w':World)=>ZN (P:=Tryz.prog) w' 22 5 1 Tryz.underlying22 zl a6 1136 c6 32 (by omega)
 go_wp2_with fail
 refine (Q7 q p a6 c6 (own.take 32) _ (HT.znr.below HS.znr.bel (by rw [HBB.znr];exact xc _)) (by rw [List.length_take,HOWN.znr.1.2];rfl) (by rw [List.map_take];exact HL6.znr.take 32)).mono ?_
 rintro e w7 ⟨kp,kb,nI,pK,rfl,hak,⟨hkp6,hkb6⟩,hbel⟩
 have hbb6:bb < w6.heap.size:=HS.znr.ne _ (xU (i:=1) rfl)
 have HAK:=znq hak
 have HKB:=znq (show bb≤kp∧bb≤kb from ⟨by omega,by omega⟩)
 have HOR:=znq (zm HOR.znr hbel)
 have HS:=znq (HS.znr.later hbel)
 clear hak hbel hsl HL6
 go_wp2_with (refine (HS.znr.get 1 rfl).zch 32 (.pointer (some ⟨kp,0,none⟩)) rfl rfl rfl rfl VS rfl rfl (by rw [(zlE.znr _).2];simp) ?_)
 intro w8 hb ho
 rw [show (acV key [.pointer none,.pointer none]).set 32 (.pointer (some ⟨kp,0,none⟩))=acV key [.pointer (some ⟨kp,0,none⟩),.pointer none] from by unfold acV;rw [dD _ _ (by rw [HKV.znr];exact xc _),HKV.znr];rfl] at hb
 have hq1:q≠bb:=HAK.znr.tab.tab.ne' (HS.znr.get 1 rfl) (by decide)
 have hq2:p≠bb:=HAK.znr.tab.boxes.ne' (HS.znr.get 1 rfl) (by decide)
 have HAK:=znq (qV.only HAK.znr ho (by omega) hq1 hq2 (by omega))
 have HL6:=znq (zr.nQ (zu HOR.znr (HS.znr.get 1 rfl) (by decide) ho))
 have HS:=znq (show St w bb w8 [(b1,zs.map B,5),(bb,acV key [.pointer (some ⟨kp,0,none⟩),.pointer none],259)] from HS.znr.change 1 hb ho (by omega) (by simp;omega))
 clear hb ho HOR
 have hsl:=fun (w':World)=>yv (P:=Tryz.prog) w' 22 5 1 Tryz.underlying22 zl a6 1136 c6 32 32 rfl (by omega)
 have ziX:=znq (show zr w8 (yy a6 c6 32) ((own.drop 32).map B) from zr.rJ HL6.znr (by rw [HOWN.znr.1.2];exact hc6) 32)
 go_wp2_with fail
 refine (zm7 (yy a6 c6 32) (c6 - 32) (own.drop 32) _ (by rw [XQ,HOWN.znr.1.2]) (by omega) ziX.znr).mono ?_
 rintro e w9 ⟨hb9,rfl,hup,hbel⟩
 have hhk:=hup.self
 have HUP:=znq hup
 have HBB8:=znq (HS.znr.ne _ (xU (i:=1) rfl))
 have HZ8:=znq HS.znr.size
 clear hup
 have HHK:=znq hhk
 have HAK:=znq (HAK.znr.later hbel)
 have HS:=znq (HS.znr.later hbel)
 clear hhk hbel hsl HL6 ziX
 go_wp2_with (refine (HS.znr.get 1 rfl).zch 33 (.pointer (some ⟨hb9,0,none⟩)) rfl rfl rfl rfl Vl rfl rfl (by rw [(zlE.znr _).2];simp) ?_)
 intro w10 hb ho
 rw [show (acV key [.pointer (some ⟨kp,0,none⟩),.pointer none]).set 33 (.pointer (some ⟨hb9,0,none⟩))=acV key [.pointer (some ⟨kp,0,none⟩),.pointer (some ⟨hb9,0,none⟩)] from by unfold acV;rw [dD _ _ (by rw [HKV.znr];omega),HKV.znr];rfl] at hb
 have HAK:=znq (qV.only HAK.znr ho (by omega) hq1 hq2 (by omega))
 have HHK:=znq (show Y3 w10 hb9 (block (own.drop 32)) (block ((own.drop 32).drop 16)) (Za ((own.drop 32).drop 32)) from by
  obtain ⟨wa,wc,h1,h2,h3⟩:=HHK.znr.blk
  refine ⟨⟨wa,wc,h1.only ho (h1.ne' (HS.znr.get 1 rfl) (by decide)),h2.only (HS.znr.get 1 rfl) ?_ ho,h3⟩,HHK.znr.zeA,HHK.znr.zeT,HHK.znr.zcT⟩
  intro x hx hin
  obtain ⟨y,_,rfl⟩:=List.mem_map.1 hx
  unfold acV at hin
  simp at hin)
 have HHU:=znq ((HUP.znr.only ho HBB8.znr (by simp)).mono (M:=[q,p]) HZ8.znr (by simp))
 have HE:=znq (zk HS.znr.bel ho (by omega))
 have HCP:=znq hb
 clear hb ho HUP
 go_wp2
 go_ret2
 have hak:qV w10 kp q p (expand 8 true ((zaj key).take 32)) kb nI 15 pK:=by
  rw [HOWN.znr.2]
  exact HAK.znr
 have hhk:∀ w'',Y3 w'' hb9 (block (own.drop 32)) (block ((own.drop 32).drop 16)) (Za ((own.drop 32).drop 32))→Y3 w'' hb9 (block ((zaj key).drop 32)) (block ((zaj key).drop 48)) (Za ((zaj key).drop 64)):=by
  intro w'' h
  rw [HOWN.znr.2]
  rw [fF,fF] at h
  exact h
 refine ⟨bb,rfl,?_,by rw [HBB.znr];exact HE.znr⟩
 rw [HBB.znr]
 exact fun S w'' hS hu=>⟨HK.znr.1,kp,q,p,kb,nI,15,pK,hb9,HCP.znr.up hu (hS _ (.inl (xc _))),hak.up hu (hS _ (.inl HKB.znr.1)) (hS _ (.inr (by simp))) (hS _ (.inr (by simp))) (hS _ (.inl HKB.znr.2)),hhk _ (HHU.znr S w'' hS hu)⟩
end Go.Proofs.YtamdifhibogdiaaGreatDoor
namespace Go.Proofs.YtamdifhibogdiaaGreatDoor
open RowKit Mem Ops Cells Oct Trn Aes Hct
attribute [local irreducible] zE zN zO zM yu
theorem Q0 (q p:Nat) (ao:Option Addr) (len cap:Nat) (key:List UInt8) (n:Nat) (long:Bool) (w:World)
  (hexp:Calls Tryz.prog 169 #[.pointer (some ⟨q,0,none⟩),.slice ao len cap] w fun e w'=>∃ kp kb nI pK,e=.returned (.tuple #[.pointer (some ⟨kp,0,none⟩),.int .i64 0])∧qV w' kp q p (expand n long key) kb nI (n+7) pK∧(w.heap.size≤kp∧w.heap.size≤kb)∧Below w.heap.size w w') :
  Calls Tryz.prog 133 #[.pointer (some ⟨q,0,none⟩),.slice ao len cap] w fun e w'=>∃ cp,e=.returned (.tuple #[.pointer (some ⟨cp,0,none⟩),.int .i64 0])∧Std w.heap.size [q,p] w' (fun w''=>Z5 w'' cp (J0 n long key))∧Below w.heap.size w w':=by
 have HEX:=znq hexp
 obtain ⟨ks,hks⟩:∃ x,x=expand n long key:=⟨_,rfl⟩
 obtain ⟨z0,hz0⟩:∃ x,x=zf 16:=⟨_,rfl⟩
 obtain ⟨z1,hz1⟩:∃ x,x=1::zf 15:=⟨_,rfl⟩
 have HZ0:=znq (show z0.length=16∧True from ⟨by rw [hz0];rfl,trivial⟩)
 have HZ1:=znq (show z1.length=16∧True from ⟨by rw [hz1];rfl,trivial⟩)
 obtain ⟨h,hh⟩:∃ x,x=enc ks z0:=⟨_,rfl⟩
 obtain ⟨l,hl⟩:∃ x,x=enc ks z1:=⟨_,rfl⟩
 have HKEY:=znq (show J0 n long key=⟨ks,h,l⟩∧expand n long key=ks from ⟨by rw [hh,hl,hks,hz0,hz1];rfl,hks.symm⟩)
 have HHH:=znq (show enc ks z0=h∧h.length=16 from ⟨hh.symm,by rw [hh];exact xJ _ _⟩)
 have HLL:=znq (show enc ks z1=l∧l.length=16 from ⟨hl.symm,by rw [hl];exact xJ _ _⟩)
 have hb0:Tryz.prog.built 59 []=some (z0.map B).toArray:=by rw [hz0];exact zid
 have hb1:Tryz.prog.built 59 [(0,.int .u8 1)]=some (z1.map B).toArray:=by rw [hz1];exact zie
 have hbc:∀ kp,Tryz.prog.built 266 [(0,.pointer (some ⟨kp,0,none⟩))]=some (hcV kp z0 z0).toArray:=by rw [hz0];exact znc
 have HB0:=znq hb0
 have HB1:=znq hb1
 have HBC:=znq hbc
 rw [HKEY.znr.1]
 have HS:=znq (St.start w)
 clear hexp hks hz0 hz1 hh hl hb0 hb1 hbc
 go_enter Tryz.func133,Tryz.ntmps133
 generalize hbb:w.heap.size=bb at *
 have HBB:=znq hbb
 clear hbb
 go_wp2_with fail
 refine HEX.znr.mono ?_
 rintro e w1 ⟨kp,kb,nI,pK,rfl,hak,hge,hbel⟩
 rw [HKEY.znr.2] at hak
 have HK:=znq hak
 have HKB:=znq hge
 have hkp:kp < w1.heap.size∧q < w1.heap.size∧p < w1.heap.size∧kb < w1.heap.size:=⟨hak.blk.lt,hak.tab.tab.lt,hak.tab.boxes.lt,(hak.range 0 (by have:=hak.two;omega)).2⟩
 have HS:=znq (HS.znr.later (by rw [HBB.znr];exact hbel))
 have hz1:=HS.znr.size
 clear hak hge hbel
 have hbc:=HBC.znr kp
 go_wp2_with (first | (refine xZ 266 _ _ _ rfl rfl rfl hbc ?_) | refine zh 266 _ (hcV kp z0 z0) _ rfl rfl rfl rfl ?_)
 intro w2 hb hbel
 have HK:=znq (HK.znr.later hbel)
 have HS:=znq (HS.znr.push hb hbel)
 clear hb hbel hbc
 generalize w1.heap.size=cp at *
 have hc0:=fun (x:xR (fun u v=>Below u.heap.size u v) w2.drew)=>((HS.znr.drew.later x.2).get 0 rfl).cell 0 _ rfl
 go_wp2_with fail
 refine kW (fun u v=>Below u.heap.size u v) [16,19] [(0,2),(1,2),(2,2),(3,2),(4,2),(5,1),(6,2),(8,2),(9,2),(10,2),(11,1),(12,2),(7,0),(13,0),(14,2),(15,2),(16,0),(17,2),(18,2),(19,0)] (fun a=>Below.refl _ a) (fun _ _ _ h1 h2=>h1.trans (h2.mono h1.size)) (by kernel_rfl) (by kernel_rfl) ?_
 rintro w3 rfl
 refine mqN ?_
 clear hc0
 rw [show (#[Value.int IntKind.u8 0,Value.int IntKind.u8 0,Value.int IntKind.u8 0,Value.int IntKind.u8 0,Value.int IntKind.u8 0,Value.int IntKind.u8 0,Value.int IntKind.u8 0,Value.int IntKind.u8 0,Value.int IntKind.u8 0,Value.int IntKind.u8 0,Value.int IntKind.u8 0,Value.int IntKind.u8 0,Value.int IntKind.u8 0,Value.int IntKind.u8 0,Value.int IntKind.u8 0,Value.int IntKind.u8 0]:Array Value)=(z0.map B).toArray from uQ HB0.znr,show (#[Value.int IntKind.u8 1,Value.int IntKind.u8 0,Value.int IntKind.u8 0,Value.int IntKind.u8 0,Value.int IntKind.u8 0,Value.int IntKind.u8 0,Value.int IntKind.u8 0,Value.int IntKind.u8 0,Value.int IntKind.u8 0,Value.int IntKind.u8 0,Value.int IntKind.u8 0,Value.int IntKind.u8 0,Value.int IntKind.u8 0,Value.int IntKind.u8 0,Value.int IntKind.u8 0,Value.int IntKind.u8 0]:Array Value)=(z1.map B).toArray from uQ HB1.znr]
 have HK:=znq HK.znr.drew
 have HS:=znq HS.znr.drew
 refine yS rfl (by rfl) (fun K hK=>?_)
 go_simp
 refine (K7 kp q p ks kb nI (n+7) pK z0 _ HK.znr HZ0.znr.1).mono ?_
 rintro e w4 ⟨rfl,hbel⟩
 rw [HHH.znr.1]
 have HK:=znq (HK.znr.later hbel)
 have HS:=znq (HS.znr.later hbel)
 go_simp
 refine hK _ _ (fun _=>hbel) ?_
 clear hK K hbel
 refine yS rfl (by rfl) (fun K hK=>?_)
 go_simp
 refine (K7 kp q p ks kb nI (n+7) pK z1 _ HK.znr HZ1.znr.1).mono ?_
 rintro e w5 ⟨rfl,hbel⟩
 rw [HLL.znr.1]
 have HK:=znq (HK.znr.later hbel)
 have HS:=znq (HS.znr.later hbel)
 go_simp
 refine hK _ _ (fun _=>hbel) ?_
 clear hK K hbel
 refine mqN ?_
 refine yS rfl (by rfl) (fun K hK=>?_)
 refine (HS.znr.get 0 rfl).pG (o:=1) (cs:=h.map B) rfl rfl rfl zc (by rw [yf];exact HHH.znr.2) (by rw [XO HZ0.znr.1 HZ0.znr.1];omega) (zg _) (fun w6 hb ho=>hK _ _ (fun h=>by cases h) ?_)
 clear hK K
 rw [zk4 HZ0.znr.1 HHH.znr.2] at hb
 have HK:=znq (HK.znr.only ho (by omega) (by omega) (by omega) (by omega))
 have HS:=znq (HS.znr.change 0 hb ho (by omega) (by simp))
 clear hb ho
 go_simp
 refine mqN ?_
 refine yS rfl (by rfl) (fun K hK=>?_)
 refine (HS.znr.get 0 rfl).pG (o:=17) (cs:=l.map B) rfl rfl rfl zc (by rw [yf];exact HLL.znr.2) (by rw [XO HHH.znr.2 HZ0.znr.1];omega) (zg _) (fun w7 hb ho=>hK _ _ (fun h=>by cases h) ?_)
 clear hK K
 rw [zk5 HHH.znr.2 HZ0.znr.1 HLL.znr.2] at hb
 have HK:=znq (HK.znr.only ho (by omega) (by omega) (by omega) (by omega))
 have HS:=znq (HS.znr.change 0 hb ho (by omega) (by simp))
 clear hb ho
 go_simp
 refine jA ?_
 go_wp2
 go_ret2
 exact ⟨_,rfl,fun S w'' hS hu=>⟨HHH.znr.2,HLL.znr.2,kp,q,p,kb,nI,n+7,pK,(HS.znr.get 0 rfl).up hu (hS _ (.inl (by omega))),HK.znr.up hu (hS _ (.inl (by have:=HKB.znr;omega))) (hS _ (.inr (by simp))) (hS _ (.inr (by simp))) (hS _ (.inl (by have:=HKB.znr;omega)))⟩,HS.znr.bel⟩
theorem zlc (q p:Nat) (ao:Option Addr) (cap:Nat) (key:List UInt8) (w:World) (ht:Tab w q p) (hlen:key.length=32) (hl:zr w ao (key.map B)) :
  Calls Tryz.prog 133 #[.pointer (some ⟨q,0,none⟩),.slice ao 32 cap] w fun e w'=>∃ cp,e=.returned (.tuple #[.pointer (some ⟨cp,0,none⟩),.int .i64 0])∧Std w.heap.size [q,p] w' (fun w''=>Z5 w'' cp (J0 8 true key))∧Below w.heap.size w w' :=
 Q0 q p ao 32 cap key 8 true w (Q7 q p ao cap key w ht hlen hl)
theorem zld (q p:Nat) (ao:Option Addr) (cap:Nat) (key:List UInt8) (w:World) (ht:Tab w q p) (hlen:key.length=24) (hl:zr w ao (key.map B)) :
  Calls Tryz.prog 133 #[.pointer (some ⟨q,0,none⟩),.slice ao 24 cap] w fun e w'=>∃ cp,e=.returned (.tuple #[.pointer (some ⟨cp,0,none⟩),.int .i64 0])∧Std w.heap.size [q,p] w' (fun w''=>Z5 w'' cp (J0 6 false key))∧Below w.heap.size w w' :=
 Q0 q p ao 24 cap key 6 false w (zbp q p ao cap key w ht hlen hl)
theorem zle (q p:Nat) (ao:Option Addr) (cap:Nat) (key:List UInt8) (w:World) (ht:Tab w q p) (hlen:key.length=16) (hl:zr w ao (key.map B)) :
  Calls Tryz.prog 133 #[.pointer (some ⟨q,0,none⟩),.slice ao 16 cap] w fun e w'=>∃ cp,e=.returned (.tuple #[.pointer (some ⟨cp,0,none⟩),.int .i64 0])∧Std w.heap.size [q,p] w' (fun w''=>Z5 w'' cp (J0 4 false key))∧Below w.heap.size w w' :=
 Q0 q p ao 16 cap key 4 false w (zbo q p ao cap key w ht hlen hl)
end Go.Proofs.YtamdifhibogdiaaGreatDoor

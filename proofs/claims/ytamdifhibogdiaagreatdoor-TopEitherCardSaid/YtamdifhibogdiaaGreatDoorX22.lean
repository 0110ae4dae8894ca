/-
  Texts of this claim, one behind the other.
-/
import Derived.Test.YtamdifhibogdiaaGreatDoorX1
import Derived.Test.YtamdifhibogdiaaGreatDoorX21
import Derived.Test.YtamdifhibogdiaaGreatDoorX19
import Derived.Test.YtamdifhibogdiaaGreatDoorX12
import Derived.Test.YtamdifhibogdiaaGreatDoorX9
import Derived.Test.YtamdifhibogdiaaGreatDoorX11
import Derived.Test.YtamdifhibogdiaaGreatDoorX20
import Derived.Test.YtamdifhibogdiaaGreatDoorX16
import Derived.Lib.Hide
set_option linter.unusedVariables false
set_option linter.unusedSimpArgs false
set_option maxHeartbeats 16000000
set_option maxRecDepth 100000
open List renaming append_nil→bC,drop_eq_nil_of_le→Yx,eq_nil_of_length_eq_zero→uG,flatMap_cons→lQ,getD_eq_getElem?_getD→gp,getElem?_eq_none→qc,getElem?_map→uV,getElem?_range→dh,length_append→q8,length_drop→XQ,length_map→yf,length_replicate→bZ,nil_append→uo
open Nat renaming le_refl→xc
open Option renaming map_some→cB
open UInt64 renaming ofNat→wF
namespace Go.Hct
open Ops
theorem zgT:∀ k:Fin 4,∀ i:Fin 8,i.val < 2 ^ k.val→bits .or .i64 ((2 ^ k.val:Nat):Int) (i.val:Int)=((2 ^ k.val+i.val:Nat):Int):=by decide +kernel
theorem zmw:∀ k:Fin 4,∀ i:Fin 8,i.val < 2 ^ k.val→(2 ^ k.val+i.val).log2=k.val:=by decide +kernel
theorem zaq:∀ k:Fin 4,1≤2 ^ k.val∧2 ^ k.val≤8:=by decide +kernel
theorem zmx:∀ k:Fin 4,RowKit.wrap64 (2 ^ k.val)=((2 ^ k.val:Nat):Int):=by decide +kernel
theorem zku (h:List UInt8) {k i:Nat} (hk:k < 4) (hi:i < 2 ^ k) :
  jX h (2 ^ k+i)=(jX h (2 ^ k - 1+i)).set (2 ^ k+i) (rY (atP (jX h (2 ^ k - 1+i)) i) (Qt h k) 1):=by
 obtain ⟨h1,h8⟩:=zaq ⟨k,hk⟩
 have hl:=zmw ⟨k,hk⟩ ⟨i,by have:=h8;simp at this;omega⟩ hi
 simp only at hl h1 h8
 have e:2 ^ k+i=(2 ^ k - 1+i)+1:=by omega
 rw [e,jX,← e,hl,show 2 ^ k+i - 2 ^ k=i by omega]
end Go.Hct
namespace Go.Proofs.YtamdifhibogdiaaGreatDoor
open RowKit Mem Ops Cells Oct Trn Adi Hct
attribute [local irreducible] zE zN zO zM yJ
def Z8 (t:List (UInt64×UInt64)):List Value:=t.flatMap zQ
theorem zdb (t:List (UInt64×UInt64)):(Z8 t).length=2*t.length:=by
 induction t with
 | nil=>rfl
 | cons p t ih=>simp only [Z8,lQ,q8,List.length_cons] at *;rw [ih];simp [zQ];omega
theorem zar:∀ (t:List (UInt64×UInt64)) (i:Nat),i < t.length→((Z8 t).drop (i*2)).take 2=zQ (atP t i)
 | p::t,0,_=>rfl
 | p::t,i+1,h=>by
  have:=zar t i (by simpa using h)
  rw [show (i+1)*2=i*2+2 by omega]
  simpa [Z8,zQ,atP] using this
theorem zdc:∀ (t:List (UInt64×UInt64)) (i:Nat) (x:UInt64×UInt64),i < t.length→(Z8 t).take (i*2)++zQ x++(Z8 t).drop (i*2+2)=Z8 (t.set i x)
 | p::t,0,x,_=>by simp [Z8,zQ]
 | p::t,i+1,x,h=>by
  have:=zdc t i x (by simpa using h)
  rw [show (i+1)*2=i*2+2 by omega]
  simp only [Z8,zQ,lQ,List.set_cons_succ] at *
  simp only [List.cons_append,uo,List.take_succ_cons,List.drop_succ_cons] at *
  rw [this]
theorem zkv:Tryz.prog.built 438 []=some (Z8 (List.replicate 16 (0,0))).toArray:=by kernel_rfl
theorem zkw (h:List UInt8) (w:World) (hh:h.length=16):Calls Tryz.prog 348 #[.agg (h.map B).toArray] w fun e w'=>∃ tb,e=.returned (.pointer (some ⟨tb,0,none⟩))∧w.heap.size≤tb∧Blk w' tb (Z8 (zcy h)) 438∧Below w.heap.size w w':=by
 have HH:=znq (show h.length=16∧True from ⟨hh,trivial⟩)
 have HHV:=znq (show (h.map B).length=16 by rw [yf];exact hh)
 have HS:=znq (St.start w)
 clear hh
 obtain ⟨t0,ht0⟩:∃ t0,t0=jX h 0:=⟨_,rfl⟩
 have hbt:Tryz.prog.built 438 []=some (Z8 t0).toArray:=by rw [ht0];exact zkv
 have HT0:=znq (show t0=jX h 0∧True from ⟨ht0,trivial⟩)
 clear ht0
 go_enter Tryz.func348,Tryz.ntmps348
 go_wp2_with (refine zh 59 _ (h.map B) _ rfl rfl rfl rfl ?_)
 intro w1 hb hbel;have HS:=znq (HS.znr.push hb hbel);have hlt1:=hb.lt;clear hb hbel
 go_wp2_with (first | (refine xZ 438 _ _ _ rfl rfl rfl hbt ?_) | refine zh 438 _ (Z8 t0) _ rfl rfl rfl rfl ?_)
 intro w2 hb hbel;have HS:=znq (HS.znr.push hb hbel);have hlt2:=hb.lt;clear hb hbel hbt
 generalize hbb:w.heap.size=bb at *
 generalize w1.heap.size=b1 at *
 have HBB:=znq hbb
 clear hbb
 go_wp2_with fail
 refine (YL (some ⟨bb,0,none⟩) 16 16 h _ HH.znr.1 (by omega) (HS.znr.get 1 rfl).lies).mono ?_
 rintro e w3 ⟨rfl,hbel⟩
 have HS:=znq (HS.znr.later hbel)
 clear hbel
 go_wp2_with fail
 refine (zgP (xo h) (1,0) _).mono ?_
 rintro e w4 ⟨rfl,hbel⟩
 have HS:=znq (HS.znr.later hbel)
 have HLT:=znq (show b1 < w4.heap.size from (HS.znr.get 0 rfl).lt)
 clear hbel hlt2
 have zbM:=znq (show zgM (xo h) (1,0)=Qt h 0∧True from ⟨rfl,trivial⟩)
 generalize zgM (xo h) (1,0)=one0 at *
 go_wp2_with (refine ze 62 (zQ (0,0)) _ rfl rfl zT rfl ?_)
 intro w5 hb hbel;have HS:=znq (HS.znr.push hb hbel);have zcO:=hb.lt;clear hb hbel
 generalize w4.heap.size=b4 at *
 go_wp2_with (refine (HS.znr.get 0 rfl).mM rfl rfl rfl (cs:=zQ one0) rfl zq rfl rfl (zX _) ?_)
 intro w6 hb ho
 have HS:=znq (HS.znr.change 0 hb ho (by have:=HLT.znr;omega) (by have:=HLT.znr;simp;omega))
 have hbb1:bb≤b1:=by omega
 have zbP:=HLT.znr
 clear hb ho zcO
 go_wp2
 go_loopw [13] (fun c wr=>∃ (k:Nat) (t:List (UInt64×UInt64)) (one:UInt64×UInt64),k≤4∧c=.int .i64 k∧Hid (t=jX h (2 ^ k - 1)∧one=Qt h k)∧Hid (St w bb wr [(b4,zQ one,62),(b1,Z8 t,438),(bb,h.map B,59)])) (fun c _=>4 - (intOf c).toNat)
 case atStart=>exact ⟨0,t0,one0,by omega,rfl,znq ⟨HT0.znr.1,zbM.znr.1⟩,HS⟩
 case round =>
  clear HS HT0 zbM
  obtain ⟨k,t,one,hk,rfl,HE,HS⟩:=hrel
  by_cases hlt:k < 4
  ·have hd:decide ((k:Int) < 4)=true:=by simp;omega
   obtain ⟨q,hq⟩:∃ q,q=2 ^ k:=⟨_,rfl⟩
   have HQ:=znq (show q=2 ^ k∧True from ⟨hq,trivial⟩)
   have hq8:q≤8:=by rw [hq];exact (zaq ⟨k,hlt⟩).2
   have hsh:RowKit.wrap64 (2 ^ k)=(q:Int):=by rw [hq];exact zmx ⟨k,hlt⟩
   clear hq
   go_wp2
   rw [hsh]
   go_loopw [18] (fun c wr=>∃ (i:Nat) (t:List (UInt64×UInt64)),i≤q∧c=.int .i64 i∧Hid (t=jX h (2 ^ k - 1+i)∧one=Qt h k)∧Hid (St w bb wr [(b4,zQ one,62),(b1,Z8 t,438),(bb,h.map B,59)])) (fun c _=>q - (intOf c).toNat)
   case atStart=>exact ⟨0,t,by omega,rfl,znq HE.znr,HS⟩
   case round =>
    clear HS HE
    obtain ⟨i,t,hi,rfl,HE,HS⟩:=hrel
    by_cases hiq:i < q
    ·have di:decide ((i:Int) < (q:Int))=true:=by simp;omega
     obtain ⟨m,hm⟩:∃ m,m=q+i:=⟨_,rfl⟩
     have hm16:m < 16:=by omega
     have hor:bits .or .i64 (q:Int) (i:Int)=(m:Int):=by
      have:=HQ.znr.1
      rw [hm,this]
      exact zgT ⟨k,hlt⟩ ⟨i,by omega⟩ (by rw [← this];exact hiq)
     have HM:=znq (show m=q+i∧True from ⟨hm,trivial⟩)
     have HTL:=znq (show t.length=16∧True from ⟨by rw [HE.znr.1];exact ZS _ _,trivial⟩)
     clear hm
     go_wp2_with fail
     refine zn [0,1,2,3,4,5,6,7,8,9,10,11,13,14,12,15,16] (by kernel_rfl) (by kernel_rfl) ?_
     rintro w7 rfl
     have HS:=znq HS.znr.drew
     refine mqR ?_
     refine zt (Blk.nA (HS.znr.get 1 rfl) (i*2) 2 _ (zar t i (by rw [HTL.znr.1];omega))) (HS.znr.get 1 rfl).lt zq rfl rfl rfl rfl rfl (fun K hK=>?_)
     go_simp;refine hK _ ?_;clear hK K
     refine zt (HS.znr.get 0 rfl).range (HS.znr.get 0 rfl).lt zq rfl rfl rfl rfl rfl (fun K hK=>?_)
     go_simp;refine hK _ ?_;clear hK K
     refine mqR ?_
     refine zi rfl rfl (by rfl) (fun K hK=>?_)
     go_simp
     refine (J8 (atP t i) one 1 _).mono ?_
     rintro e w8 ⟨rfl,hbel⟩
     have HS:=znq (HS.znr.later hbel)
     go_simp
     refine hK _ _ hbel ?_
     clear hK K hbel
     refine mqR ?_
     have HN:=znq (show t.set m (rY (atP t i) one 1)=jX h (2 ^ k - 1+(i+1))∧one=Qt h k from ⟨by
      have h2:=HQ.znr.1
      have h1:=(zaq ⟨k,hlt⟩).1
      simp only at h1
      rw [show 2 ^ k - 1+(i+1)=2 ^ k+i by omega,zku h hlt (by rw [← h2];exact hiq),← HE.znr.1,← HE.znr.2,HM.znr.1,h2],HE.znr.2⟩)
     generalize rY (atP t i) one 1=x at *
     refine zp rfl rfl (by rfl) (fun K hK=>?_)
     refine (HS.znr.get 1 rfl).pG (o:=m*2) (cs:=zQ x) rfl rfl rfl zq rfl (by rw [zdb,HTL.znr.1];omega) (zX _) (fun w9 hb ho=>hK _ _ ?_)
     clear hK K
     rw [show (zQ x).length=2 from rfl,zdc t m x (by rw [HTL.znr.1];exact hm16)] at hb
     have HS:=znq (HS.znr.change 1 hb ho (by omega) (by simp;omega))
     clear hb ho
     go_simp
     refine zo ?_
     go_wp2
     go_roundw
     case rel=>exact ⟨i+1,t.set m x,by omega,by go_num,HN,HS⟩
     case measure=>simp [intOf];omega
    ·obtain rfl:i=q:=by omega
     have di:decide ((i:Int) < (i:Int))=false:=by simp
     have HE:=znq (show t=jX h (2 ^ (k+1) - 1)∧one=Qt h k from ⟨by
      have h2:=HQ.znr.1
      have h1:=(zaq ⟨k,hlt⟩).1
      simp only at h1
      rw [HE.znr.1,h2]
      congr 1
      rw [Nat.pow_succ]
      omega,HE.znr.2⟩)
     have HWV:=znq (show (zQ one).length=2 from rfl)
     go_wp2_with (refine (HS.znr.get 0 rfl).mP rfl rfl rfl zq rfl ?_)
     refine (zgN one _).mono ?_
     rintro e w7 ⟨rfl,hbel⟩
     have HS:=znq (HS.znr.later hbel)
     have HE:=znq (show t=jX h (2 ^ (k+1) - 1)∧upR one=Qt h (k+1) from ⟨HE.znr.1,by rw [HE.znr.2];rfl⟩)
     generalize upR one=one' at *
     clear hbel
     go_wp2_with (refine (HS.znr.get 0 rfl).mM rfl rfl rfl (cs:=zQ one') rfl zq rfl rfl (zX _) ?_)
     intro w8 hb ho
     have HS:=znq (HS.znr.change 0 hb ho (by omega) (by simp;omega))
     clear hb ho
     go_wp2
     go_roundw
     case rel=>exact ⟨k+1,t,one',by omega,by go_num,HE,HS⟩
     case measure=>simp [intOf];omega
  ·obtain rfl:k=4:=by omega
   go_wp2
   go_ret
   rw [HBB.znr]
   refine ⟨_,rfl,hbb1,?_,HS.znr.bel⟩
   have:=HS.znr.get 1 rfl
   rw [HE.znr.1] at this
   exact this
end Go.Proofs.YtamdifhibogdiaaGreatDoor
namespace Go.Hct
open Ops Trn
def upN (s:UInt64×UInt64):Nat→UInt64×UInt64
 | 0=>s
 | m+1=>upR (upN s m)
def zkX (t:List (UInt64×UInt64)) (s:UInt64×UInt64) (x y:UInt8):Nat→UInt64×UInt64
 | 0=>s
 | 1=>zcz t s x
 | _=>zcz t (zcz t s x) y
def pick (x y:UInt8):Nat→UInt8
 | 0=>x
 | _=>y
end Go.Hct
namespace Go.Proofs.YtamdifhibogdiaaGreatDoor
open RowKit Mem Ops Cells Oct Trn Adi Hct
attribute [local irreducible] zE zN zO zM yJ
theorem zmy (b:UInt8) (j:Nat):(pick (rF b 4) (rE b 15) j).toNat < 16:=by
 have h:=lt8 b
 match j with
 | 0 =>
  have:=zfp b 4
  show (rF b 4).toNat < 16
  omega
 | j+1 =>
  show (rE b 15).toNat < 16
  unfold rE
  rw [UInt8.toNat_and]
  exact Nat.lt_of_le_of_lt Nat.and_le_right (by decide)
theorem ze7 (x y:UInt8) {j:Nat} (h:j < 2):(#[B x,B y]:Array Value)[j]? = some (B (pick x y j)):=by
 match j,h with
 | 0,_=>rfl
 | 1,_=>rfl
theorem zmz (tb:Nat) (t:List (UInt64×UInt64)) (a:List UInt8) (w:World) (ht:t.length=16) (ha:a.length=16) (hb:Blk w tb (Z8 t) 438) :
  Calls Tryz.prog 349 #[.pointer (some ⟨tb,0,none⟩),.agg (a.map B).toArray] w fun e w'=>e=.returned (.agg ((zcK t a).map B).toArray)∧Below w.heap.size w w':=by
 have HT:=znq (show t.length=16∧True from ⟨ht,trivial⟩)
 have HA:=znq (show a.length=16∧True from ⟨ha,trivial⟩)
 have HTB:=znq hb
 have HTL:=znq hb.lt
 have HS:=znq (St.start w)
 clear ht ha hb
 go_enter Tryz.func349,Tryz.ntmps349
 go_wp2_with (refine zh 59 _ (a.map B) _ rfl rfl rfl rfl ?_)
 intro w1 hb hbel;have HS:=znq (HS.znr.push hb hbel);have hlt1:=hb.lt;clear hb hbel
 go_wp2_with (refine ze 59 ((zf 16).map B) _ rfl rfl zj rfl ?_)
 intro w2 hb hbel;have HS:=znq (HS.znr.push hb hbel);have hlt2:=hb.lt;clear hb hbel
 go_wp2_with (refine ze 62 (zQ (0,0)) _ rfl rfl zT rfl ?_)
 intro w3 hb hbel;have HS:=znq (HS.znr.push hb hbel);have hlt3:=hb.lt;clear hb hbel
 generalize hbb:w.heap.size=bb at *
 generalize w1.heap.size=b1 at *
 generalize w2.heap.size=b2 at *
 have HBB:=znq hbb
 clear hbb
 go_wp2
 go_loopw [13] (fun c wr=>∃ (i:Nat) (s:UInt64×UInt64),i≤16∧c=.int .i64 i∧Hid (s=JY t a i∧True)∧Hid (St w bb wr [(b2,zQ s,62),(b1,(zf 16).map B,59),(bb,a.map B,59)])) (fun c _=>16 - (intOf c).toNat)
 case atStart=>exact ⟨0,(0,0),by omega,rfl,znq ⟨rfl,trivial⟩,HS⟩
 case round =>
  clear HS
  obtain ⟨i,s,hi,rfl,HE,HS⟩:=hrel
  by_cases hlt:i < 16
  ·have hd:decide ((i:Int) < 16)=true:=by simp;omega
   obtain ⟨r,hr⟩:∃ r,r=15 - i:=⟨_,rfl⟩
   have hri:(15:Int) - (i:Int)=(r:Int):=by omega
   have hr16:r < 16:=by omega
   have hw:IntKind.i64.wrap ((15:Int) - (i:Int))=(r:Int):=by rw [IntWalk.i64_in _ (by omega)];exact hri
   have HR:=znq (show r=15 - i∧True from ⟨hr,trivial⟩)
   have hc:=(HS.znr.get 2 rfl).cell r _ (zU (q4 (b:=a) (i:=r) (by rw [HA.znr.1];exact hr16)))
   clear hr
   obtain ⟨v,hv⟩:∃ v,v=at8 a r:=⟨_,rfl⟩
   have HV:=znq (show v=at8 a r∧True from ⟨hv,trivial⟩)
   rw [← hv] at hc
   clear hv
   go_wp2
   have HP:=znq (zmy v)
   have HNB:=znq (show zcz t (zcz t s (rF v 4)) (rE v 15)=JY t a (i+1)∧True from ⟨by rw [HE.znr.1,HV.znr.1,HR.znr.1];rfl,trivial⟩)
   clear HE HV hc
   generalize rF v 4=x at *
   generalize rE v 15=y at *
   go_loopw [25] (fun c wr=>∃ (j:Nat) (s':UInt64×UInt64),j≤2∧c=.int .i64 j∧Hid (s'=zkX t s x y j∧True)∧Hid (St w bb wr [(b2,zQ s',62),(b1,(zf 16).map B,59),(bb,a.map B,59)])) (fun c _=>2 - (intOf c).toNat)
   case atStart=>exact ⟨0,s,by omega,rfl,znq ⟨rfl,trivial⟩,HS⟩
   case round =>
    clear HS
    obtain ⟨j,s',hj,rfl,HE,HS⟩:=hrel
    by_cases hlj:j < 2
    ·have dj:decide ((j:Int) < 2)=true:=by simp;omega
     have hix:=fun w':World=>qF (P:=Tryz.prog) w' 441 5 2 #[B x,B y] .i64 j (B (pick x y j)) Tryz.underlying441 (by kernel_rfl) zl (ze7 x y hlj) hlj
     have hp16:=HP.znr j
     have HMI:=znq (show zkX t s x y (j+1)=zcz t s' (pick x y j)∧True from ⟨by
      rw [HE.znr.1]
      match j,hlj with
      | 0,_=>rfl
      | 1,_=>rfl,trivial⟩)
     generalize pick x y j=z at *
     go_wp2
     go_loopw [28] (fun c wr=>∃ (k:Nat) (s'':UInt64×UInt64),k≤4∧c=.int .i64 k∧Hid (s''=upN s' k∧True)∧Hid (St w bb wr [(b2,zQ s'',62),(b1,(zf 16).map B,59),(bb,a.map B,59)])) (fun c _=>4 - (intOf c).toNat)
     case atStart=>exact ⟨0,s',by omega,rfl,znq ⟨rfl,trivial⟩,HS⟩
     case round =>
      clear HS
      obtain ⟨k,s'',hk,rfl,HK,HS⟩:=hrel
      by_cases hlk:k < 4
      ·have dk:decide ((k:Int) < 4)=true:=by simp;omega
       go_wp2_with (refine (HS.znr.get 0 rfl).mP rfl rfl rfl zq rfl ?_)
       refine (zgN s'' _).mono ?_
       rintro e w7 ⟨rfl,hbel⟩
       have HS:=znq (HS.znr.later hbel)
       have HK:=znq (show upR s''=upN s' (k+1)∧True from ⟨by rw [HK.znr.1];rfl,trivial⟩)
       generalize upR s''=q at *
       clear hbel
       go_wp2_with (refine (HS.znr.get 0 rfl).mM rfl rfl rfl (cs:=zQ q) rfl zq rfl rfl (zX _) ?_)
       intro w8 hb ho
       have HS:=znq (HS.znr.change 0 hb ho (by omega) (by simp;omega))
       clear hb ho
       go_wp2
       go_roundw
       case rel=>exact ⟨k+1,q,by omega,by go_num,HK,HS⟩
       case measure=>simp [intOf];omega
      ·obtain rfl:k=4:=by omega
       have HN:=znq (show rY s'' (atP t z.toNat) 1=zkX t s x y (j+1)∧True from ⟨by rw [HMI.znr.1,HK.znr.1];rfl,trivial⟩)
       have zaW:=znq (HTB.znr.below HS.znr.bel HTL.znr)
       go_wp2_with fail
       refine zn [0,1,2,3,4,5,6,7,8] (by kernel_rfl) (by kernel_rfl) ?_
       rintro w7 rfl
       have HS:=znq HS.znr.drew
       have zaW:=znq zaW.znr.drew
       refine zt (HS.znr.get 0 rfl).range (HS.znr.get 0 rfl).lt zq rfl rfl rfl rfl rfl (fun K hK=>?_)
       go_simp;refine hK _ ?_;clear hK K
       refine mqR ?_
       refine zt (Blk.nA zaW.znr (z.toNat*2) 2 _ (zar t z.toNat (by rw [HT.znr.1];exact hp16))) zaW.znr.lt zq rfl rfl rfl rfl rfl (fun K hK=>?_)
       go_simp;refine hK _ ?_;clear hK K
       refine zi rfl rfl (by rfl) (fun K hK=>?_)
       go_simp
       refine (J8 s'' (atP t z.toNat) 1 _).mono ?_
       rintro e w8 ⟨rfl,hbel⟩
       have HS:=znq (HS.znr.later hbel)
       go_simp
       refine hK _ _ hbel ?_
       clear hK K hbel
       generalize rY s'' (atP t z.toNat) 1=q at *
       refine zp rfl rfl (by rfl) (fun K hK=>?_)
       refine (HS.znr.get 0 rfl).mZ rfl rfl rfl zq rfl rfl (zX _) (fun w9 hb ho=>hK _ _ ?_)
       clear hK K
       have HS:=znq (HS.znr.change 0 hb ho (by omega) (by simp;omega))
       clear hb ho
       go_simp
       refine zo ?_
       go_wp2
       go_roundw
       case rel=>exact ⟨j+1,q,by omega,by go_num,HN,HS⟩
       case measure=>simp [intOf];omega
    ·obtain rfl:j=2:=by omega
     have HE:=znq (show s'=JY t a (i+1)∧True from ⟨by rw [HE.znr.1,← HNB.znr.1];rfl,trivial⟩)
     go_wp2
     go_roundw
     case rel=>exact ⟨i+1,s',by omega,by go_num,HE,HS⟩
     case measure=>simp [intOf];omega
  ·obtain rfl:i=16:=by omega
   have HE:=znq (show z7 s=zcK t a∧True from ⟨by rw [HE.znr.1];rfl,trivial⟩)
   have HWL:=znq (zZ s)
   go_wp2_with (refine (HS.znr.get 0 rfl).mP rfl rfl rfl zq rfl ?_)
   refine (k5 s.1 s.2 _).mono ?_
   rintro e w7 ⟨rfl,hbel⟩
   have HS:=znq (HS.znr.later hbel)
   clear hbel
   obtain ⟨q,hq⟩:∃ q,q=zcK t a:=⟨_,rfl⟩
   have HBV:=znq (show q.length=16 by rw [hq];exact YD _ _)
   rw [show zz s.1++zz s.2=q by rw [hq];exact HE.znr.1]
   have HQ:=znq (show q=zcK t a∧True from ⟨hq,trivial⟩)
   clear hq
   go_wp2_with (refine (HS.znr.get 1 rfl).mM rfl rfl rfl (cs:=q.map B) rfl zc (by simp [zd]) (by rw [yf];exact HBV.znr) (zg _) ?_)
   intro w8 hb ho
   go_wp2
   refine hb.result rfl rfl rfl zc (by rw [yf];exact HBV.znr) ⟨by rw [HQ.znr.1],?_⟩
   rw [HBB.znr]
   exact zk HS.znr.bel ho (by omega)
end Go.Proofs.YtamdifhibogdiaaGreatDoor
namespace Go.Proofs.YtamdifhibogdiaaGreatDoor
open RowKit Mem Ops Cells Oct Trn Adi Hct
attribute [local irreducible] zE zN zO zM yJ
def stV (tb:Nat) (v:List UInt8):List Value:=.pointer (some ⟨tb,0,none⟩)::v.map B
theorem Vh {tb:Nat} {v:List UInt8} (h:v.length=16):(stV tb v).length=17:=by simp [stV,h]
theorem zm8 {tb:Nat} {v:List UInt8} (h:v.length=16):((stV tb v).drop 1).take 16=v.map B:=by
 show (v.map B).take 16=_
 rw [List.take_of_length_le (by rw [yf,h];omega)]
theorem zm9 {tb:Nat} {v u:List UInt8} (h:v.length=16) (hu:u.length=16):(stV tb v).take 1++u.map B++(stV tb v).drop (1+(u.map B).length)=stV tb u:=by
 rw [yf,hu,Yx (by rw [Vh h];omega),bC]
 rfl
theorem zk3 {w:World} {sb tb:Nat} {v:List UInt8} (hb:Blk w sb (stV tb v) 435):zr w (some ⟨sb,1,none⟩) (v.map B):=by
 have:=hb.lies.drop 1
 simpa [stV,add_eq] using this
theorem zfi (tb:Nat):Tryz.prog.built 435 [(0,.pointer (some ⟨tb,0,none⟩))]=some (stV tb (zf 16)).toArray:=by kernel_rfl
theorem zna (h:List UInt8) (w:World) (hh:h.length=16):Calls Tryz.prog 344 #[.agg (h.map B).toArray] w fun e w'=>∃ sb tb,e=.returned (.pointer (some ⟨sb,0,none⟩))∧w.heap.size≤tb∧tb < sb∧Blk w' sb (stV tb (zf 16)) 435∧Blk w' tb (Z8 (zcy h)) 438∧Below w.heap.size w w':=by
 have HH:=znq (show h.length=16∧True from ⟨hh,trivial⟩)
 have HHV:=znq (show (h.map B).length=16 by rw [yf];exact hh)
 have HS:=znq (St.start w)
 clear hh
 go_enter Tryz.func344,Tryz.ntmps344
 go_wp2_with (refine zh 59 _ (h.map B) _ rfl rfl rfl rfl ?_)
 intro w1 hb hbel;have HS:=znq (HS.znr.push hb hbel);have hlt1:=hb.lt;clear hb hbel
 generalize hbb:w.heap.size=bb at *
 have HBB:=znq hbb
 clear hbb
 go_wp2_with (refine (HS.znr.get 0 rfl).mP rfl rfl rfl zc HHV.znr ?_)
 refine (zkw h _ HH.znr.1).mono ?_
 rintro e w2 ⟨tb,rfl,htb,hb,hbel⟩
 have HS:=znq (HS.znr.push hb hbel)
 have hlt2:=hb.lt
 clear hb hbel
 have hbu:=zfi tb
 go_wp2_with (first | (refine xZ 435 _ _ _ rfl rfl rfl hbu ?_) | refine zh 435 _ (stV tb (zf 16)) _ rfl rfl rfl rfl ?_)
 intro w3 hb hbel
 have HS:=znq (HS.znr.push hb hbel)
 have HLT:=znq hlt2
 clear hb hbel hbu
 go_wp2
 go_ret
 rw [HBB.znr]
 exact ⟨_,tb,rfl,by omega,HLT.znr,HS.znr.get 0 rfl,HS.znr.get 1 rfl,HS.znr.bel⟩
theorem zh7 (sb tb:Nat) (v:List UInt8) (w:World) (hv:v.length=16) (hb:Blk w sb (stV tb v) 435) :
  Calls Tryz.prog 346 #[.pointer (some ⟨sb,0,none⟩)] w fun e w'=>e=.returned (.agg (v.map B).toArray)∧Below w.heap.size w w':=by
 have HV:=znq (show v.length=16∧True from ⟨hv,trivial⟩)
 have HVV:=znq (show (v.map B).length=16 by rw [yf];exact hv)
 have HSB:=znq hb
 have HLT:=znq hb.lt
 have HS:=znq (St.start w)
 clear hv hb
 go_enter Tryz.func346,Tryz.ntmps346
 go_wp2_with (refine ze 59 ((zf 16).map B) _ rfl rfl zj rfl ?_)
 intro w1 hb hbel;have HS:=znq (HS.znr.push hb hbel);have hlt1:=hb.lt;clear hb hbel
 generalize hbb:w.heap.size=bb at *
 have HBB:=znq hbb
 have HSB:=znq (HSB.znr.below HS.znr.bel HLT.znr)
 clear hbb
 go_wp2_with (first | (refine HSB.znr.rZ (off:=1) rfl rfl rfl zc (zm8 HV.znr.1) HVV.znr ?_) | (refine (HS.znr.get 0 rfl).mM rfl rfl rfl (cs:=v.map B) rfl zc (by simp [zd]) HVV.znr (zg _) ?_))
 intro w2 hb ho
 have HE:=znq (zk HS.znr.bel ho (by omega))
 clear ho
 go_wp2
 refine hb.result rfl rfl rfl zc HVV.znr ⟨rfl,?_⟩
 rw [HBB.znr]
 exact HE.znr
abbrev za0 (sb:Nat) (sl:Value) (us:Nat→Value):Act:={ tmps:=#[.pointer (some ⟨sb,0,none⟩),sl,us 2,us 3,us 4,us 5,us 6,us 7,us 8,us 9,us 10,us 11,us 12,us 13,us 14,us 15,us 16,us 17,us 18,us 19,us 20,us 21,us 22,us 23,us 24,us 25,us 26,us 27],defers:=[] }
def zgZ (sb tb:Nat) (t:List (UInt64×UInt64)) (fin:List UInt8) (w:World) (x:Act) (wr:World):Prop :=
 ∃ (us:Nat→Value) (ao:Option Addr) (n c:Nat) (bs v:List UInt8),x=za0 sb (.slice ao n c) us∧n≤c∧n≤2000000∧n % 16=0∧Hid (bs.length=n∧v.length=16)∧Hid (∀ w',zI sb wr w'→zr w' ao (bs.map B)) ∧
  Hid (jq t v bs=fin∧True)∧Hid (Blk wr sb (stV tb v) 435)∧Hid (zI sb w wr)
theorem zgZ.intro {sb tb:Nat} {t:List (UInt64×UInt64)} {fin:List UInt8} {w:World} {x:Act} {wr:World} (ao:Option Addr) (n c:Nat) (bs v:List UInt8) (hx:x=za0 sb (.slice ao n c) (fun i=>x.tmps.getD i undef)) (h1:n≤c) (h2:n≤2000000) (h3:n % 16=0) (h4:bs.length=n∧v.length=16)
  (h5:∀ w',zI sb wr w'→zr w' ao (bs.map B)) (h8:jq t v bs=fin∧True) (h9:Blk wr sb (stV tb v) 435) (h10:zI sb w wr):zgZ sb tb t fin w x wr :=
 ⟨_,ao,n,c,bs,v,hx,h1,h2,h3,h4,h5,h8,h9,h10⟩
theorem zh8 (sb tb:Nat) (t:List (UInt64×UInt64)) (v:List UInt8) (ao:Option Addr) (n cap:Nat) (b:List UInt8) (w:World) (hb:Blk w sb (stV tb v) 435) (ht:Blk w tb (Z8 t) 438) (zec:t.length=16) (hne:tb < sb) (hv:v.length=16) (hn:b.length=n) (hn6:n≤1000000) (hl:zr w ao (b.map B)) :
  Calls Tryz.prog 345 #[.pointer (some ⟨sb,0,none⟩),.slice ao n cap] w fun e w'=>(∃ x,e=.returned x)∧Blk w' sb (stV tb (jq t v (kF b 16))) 435∧zI sb w w':=by
 have HSB:=znq hb
 have HTB:=znq ht
 have HO:=znq (zI.refl sb w)
 have HT:=znq zec
 have HV:=znq hv
 have HN:=znq hn
 have HL:=znq hl
 have HSW:=znq hb.lt
 obtain ⟨d,hd⟩:∃ d,d=kF b 16:=⟨_,rfl⟩
 obtain ⟨dn,hdn⟩:∃ x,x=d.length:=⟨_,rfl⟩
 have HD:=znq (show kF b 16=d∧d.length=dn from ⟨hd.symm,hdn.symm⟩)
 have HDN:=znq (show n+j8 n 16=dn from by rw [hdn,hd,kF,q8,bZ,hn])
 have zgY:dn % 16=0:=by rw [hdn,hd];exact (ky b).1
 have hd6:dn≤2000000:=by rw [hdn,hd];have:=(ky b).2;omega
 obtain ⟨fin,hfin⟩:∃ f,f=jq t v (kF b 16):=⟨_,rfl⟩
 have HF:=znq (show jq t v d=fin∧True from ⟨by rw [hfin,hd],trivial⟩)
 rw [← hfin]
 clear hb ht zec hv hn hl hfin hd hdn
 go_enter Tryz.func345,Tryz.ntmps345
 go_wp2_with fail
 refine yd 0 (zgZ sb tb t fin w) (fun x _=>X9 (x.tmps.getD 1 undef)) rfl ?_ ?_
 ·simp only [q9]
  go_wp2_with fail
  refine (Zh ao n cap 16 b _ HN.znr (by omega) (by omega) (by omega) HL.znr).mono ?_
  rintro e w1 ⟨v1,rfl,hown,hbel⟩
  rw [HDN.znr] at hown
  obtain ⟨a1,c1,rfl,hc1,_,_⟩:=zw hown
  rw [HD.znr.1] at hown
  have HOWN:=znq hown
  have HSB:=znq (HSB.znr.below hbel HSW.znr)
  have HO:=znq (HO.znr.trans (zI.of_below hbel))
  clear hown hbel
  simp only [id]
  go_wp2
  exact zgZ.intro a1 dn c1 d v rfl hc1 hd6 zgY ⟨HD.znr.2,HV.znr⟩ (fun w' ho=>zdo HOWN.znr HSW.znr w' ho) HF.znr HSB.znr HO.znr
 ·clear HSB HO HV HN HL HF HDN HD zgY hd6 hn6
  rintro x wr ⟨us,ao,n,c,bs,v,rfl,hc,hn6,h16,HN,HL,HF,HSB,HO⟩
  have zaW:=znq (HTB.znr.pR HO.znr (by omega))
  simp only [za0]
  by_cases h0:n=0
  ·subst h0
   have HE:=znq (show fin=v∧True from ⟨by rw [← HF.znr.1,uG HN.znr.1,Wx],trivial⟩)
   go_wp2
   try rw [Exit.nZ]
   refine bodyPost_ret (results_none rfl _ _ _) rfl ?_
   refine ⟨⟨_,rfl⟩,?_,HO.znr⟩
   rw [HE.znr.1]
   exact HSB.znr
  ·have hge:16≤n:=by omega
   have hne0:((n:Int)==0)=false:=by simp;omega
   have hne1:¬ ((n:Int)=0):=by omega
   have HST:=znq (show jq t (zcK t (block (nX v bs))) (bs.drop 16)=fin∧True from ⟨(JZ (by rw [HN.znr.1];exact h0)).symm.trans HF.znr.1,trivial⟩)
   have HBX:=znq (show (block (nX v bs)).length=16 from zA _)
   have hmin:min 16 n=16:=by omega
   have hc0:=fun (x:zG wr.drew)=>(HSB.znr.drew.below x.later HSB.znr.drew.lt).cell 0 (.pointer (some ⟨tb,0,none⟩)) rfl
   clear h0
   go_wp2_with fail
   refine zn [0,1,2,3,4,5,6,7,8,9,10,11,12,13,14,15] (by kernel_rfl) (by kernel_rfl) ?_
   rintro w1 rfl
   refine mqR ?_
   clear hc0
   have HSB:=znq HSB.znr.drew
   have HO:=znq HO.znr.drew
   have zaW:=znq zaW.znr.drew
   refine zi rfl rfl (by rfl) (fun K hK=>?_)
   go_simp
   refine (j1 _ _ 16 n 16 c v bs _ HN.znr.2 HN.znr.1 (by omega) (by omega) (zk3 HSB.znr) (HL.znr _ (zI.refl sb _).drew)).mono ?_
   rintro e w5 ⟨v5,rfl,hown5,mX⟩
   rw [hmin] at hown5
   obtain ⟨ao5,cap5,rfl,_,_,hl5⟩:=zw hown5
   have HL5:=znq hl5
   have HSB:=znq (HSB.znr.below mX HSB.znr.lt)
   have zaW:=znq (zaW.znr.below mX zaW.znr.lt)
   have HO':=znq (zI.of_below (b:=sb) mX)
   clear hown5 hl5
   simp only [id]
   go_simp
   refine hK _ _ mX ?_
   clear hK K mX
   refine zi rfl rfl (by rfl) (fun K hK=>?_)
   go_simp
   refine (yQ ao5 16 cap5 (nX v bs) _ (by rw [mW,HN.znr.1,HN.znr.2];omega) HL5.znr).mono ?_
   rintro e w6 ⟨rfl,hbel⟩
   have HSB:=znq (HSB.znr.below hbel HSB.znr.lt)
   have zaW:=znq (zaW.znr.below hbel zaW.znr.lt)
   have HO':=znq (HO'.znr.trans (zI.of_below hbel))
   go_simp
   refine hK _ _ hbel ?_
   clear hK K hbel
   generalize block (nX v bs)=xb at *
   refine zi rfl rfl (by rfl) (fun K hK=>?_)
   go_simp
   refine (zmz tb t xb _ HT.znr HBX.znr zaW.znr).mono ?_
   rintro e w7 ⟨rfl,hbel⟩
   have HSB:=znq (HSB.znr.below hbel HSB.znr.lt)
   have HO':=znq (HO'.znr.trans (zI.of_below hbel))
   go_simp
   refine hK _ _ hbel ?_
   clear hK K hbel
   have HDL:=znq (show (zcK t xb).length=16 from YD _ _)
   generalize zcK t xb=u at *
   refine mqR ?_
   refine zp rfl rfl (by rfl) (fun K hK=>?_)
   refine HSB.znr.pG (o:=1) (cs:=u.map B) rfl rfl rfl zc (by rw [yf];exact HDL.znr) (by rw [Vh HN.znr.2];omega) (zg _) (fun w8 hb ho=>hK _ _ ?_)
   clear hK K
   rw [zm9 HN.znr.2 HDL.znr] at hb
   have HSB:=znq hb
   have HO':=znq (HO'.znr.trans (zI.nH ho))
   have HO:=znq (HO.znr.trans HO'.znr)
   have HL:=znq (show ∀ w',zI sb w8 w'→zr w' ao (bs.map B) from fun w' ho=>HL.znr w' ((zI.refl sb _).drew.trans (HO'.znr.trans ho)))
   clear hb ho
   go_simp
   refine zo ?_
   have hsl:=fun (w':World)=>yv (P:=Tryz.prog) w' 22 5 1 Tryz.underlying22 zl ao n c 16 16 rfl hge
   go_wp2
   refine wp_goto ⟨rfl,zgZ.intro (yy ao c 16) (n - 16) (c - 16) (bs.drop 16) u rfl (by omega) (by omega) (by omega) ⟨by rw [XQ,HN.znr.1],HDL.znr⟩ (fun w' ho=>zr.rJ (HL.znr w' ho) (by rw [HN.znr.1];exact hc) 16) HST.znr HSB.znr HO.znr,?_⟩
   simp [X9];omega
end Go.Proofs.YtamdifhibogdiaaGreatDoor
namespace Go.Proofs.YtamdifhibogdiaaGreatDoor
open RowKit Mem Ops Cells Oct Trn Adi Hct
attribute [local irreducible] zE zN zO zM yJ
theorem znb (h:List UInt8) (ao:Option Addr) (n cap:Nat) (b:List UInt8) (w:World) (hh:h.length=16) (hn:b.length=n) (hn6:n≤1000000) (hl:zr w ao (b.map B)) :
  Calls Tryz.prog 341 #[.agg (h.map B).toArray,.slice ao n cap] w fun e w'=>e=.returned (.agg ((jq (zcy h) (zf 16) (kF b 16)).map B).toArray)∧Below w.heap.size w w':=by
 have HH:=znq (show h.length=16∧True from ⟨hh,trivial⟩)
 have HHV:=znq (show (h.map B).length=16 by rw [yf];exact hh)
 have HN:=znq hn
 have HL:=znq hl
 obtain ⟨u,hu⟩:∃ u,u=jq (zcy h) (zf 16) (kF b 16):=⟨_,rfl⟩
 have HU:=znq (show jq (zcy h) (zf 16) (kF b 16)=u∧u.length=16 from ⟨hu.symm,by rw [hu];exact ZT _ _ _ _ (xc _) (zd 16)⟩)
 rw [← hu]
 have HUV:=znq (show (u.map B).length=16 by rw [yf];exact HU.znr.2)
 have HS:=znq (St.start w)
 clear hh hn hl hu
 go_enter Tryz.func341,Tryz.ntmps341
 go_wp2_with (refine zh 59 _ (h.map B) _ rfl rfl rfl rfl ?_)
 intro w1 hb hbel;have HS:=znq (HS.znr.push hb hbel);have hlt1:=hb.lt;clear hb hbel
 go_wp2_with (refine ze 59 ((zf 16).map B) _ rfl rfl zj rfl ?_)
 intro w2 hb hbel;have HS:=znq (HS.znr.push hb hbel);have hlt2:=hb.lt;clear hb hbel
 generalize hbb:w.heap.size=bb at *
 generalize w1.heap.size=b1 at *
 have HBB:=znq hbb
 have HBW:=znq (show ∀ wz L,St w bb wz L→Below w.heap.size w wz from fun wz L h=>by rw [hbb];exact h.bel)
 clear hbb
 go_wp2_with (refine (HS.znr.get 1 rfl).mP rfl rfl rfl zc HHV.znr ?_)
 refine (zna h _ HH.znr.1).mono ?_
 rintro e w3 ⟨sb,tb,rfl,htb,hts,hb,hb2,hbel⟩
 have HSB:=znq hb
 have HTB:=znq hb2
 have HS:=znq (HS.znr.later hbel)
 have h1:b1 < sb:=by omega
 have h2:bb≤sb:=by omega
 clear hb hb2 hbel
 go_wp2_with fail
 refine (zh8 sb tb (zcy h) (zf 16) ao n cap b _ HSB.znr HTB.znr (ZS _ _) hts (zd 16) HN.znr hn6 (HL.znr.below (HBW.znr _ _ HS.znr))).mono ?_
 rintro e w4 ⟨⟨x4,rfl⟩,hb,ho⟩
 rw [HU.znr.1] at hb
 have HSB:=znq hb
 have HS:=znq (HS.znr.ziW ho h2 (by simp;omega))
 clear hb ho
 go_wp2_with fail
 refine (zh7 sb tb u _ HU.znr.2 HSB.znr).mono ?_
 rintro e w5 ⟨rfl,hbel⟩
 have HS:=znq (HS.znr.later hbel)
 clear hbel
 go_wp2_with (refine (HS.znr.get 0 rfl).mM rfl rfl rfl (cs:=u.map B) rfl zc (by simp [zd]) HUV.znr (zg _) ?_)
 intro w6 hb ho
 have HE:=znq (zk HS.znr.bel ho (by omega))
 clear ho
 go_wp2
 refine hb.result rfl rfl rfl zc HUV.znr ⟨rfl,?_⟩
 rw [HBB.znr]
 exact HE.znr
theorem Vi (n:Nat) (whole:Bool) (w:World):Calls Tryz.prog 347 #[.int .i64 n,.bool whole] w fun e w'=>e=.returned (.agg ((kD n (if whole then 2 else 3)).map B).toArray)∧Below w.heap.size w w':=by
 obtain ⟨un,hun⟩:∃ x,x=wF n:=⟨_,rfl⟩
 have hcv:IntKind.u64.wrap (n:Int)=(un.toNat:Int):=by rw [hun];exact zbb n
 obtain ⟨k,hk⟩:∃ k:UInt64,k=if whole then 2 else 3:=⟨_,rfl⟩
 obtain ⟨u,hu⟩:∃ u,u=kD n k:=⟨_,rfl⟩
 have HU:=znq (show zz (wi (xf un 4) k)++zz (yp un 60)=u∧u.length=16 from ⟨by rw [hu,hun];rfl,by rw [hu];exact zZ _⟩)
 rw [← hk,← hu]
 have HUV:=znq (show (u.map B).length=16 by rw [yf];exact HU.znr.2)
 have hd:decide ((n:Int) < 0)=false:=by simp
 have HS:=znq (St.start w)
 clear hun hu
 cases whole with
 | true =>
  obtain rfl:k=2:=hk
  go_enter Tryz.func347,Tryz.ntmps347
  go_wp2_with (refine ze 59 ((zf 16).map B) _ rfl rfl zj rfl ?_)
  intro w1 hb hbel;have HS:=znq (HS.znr.push hb hbel);have hlt1:=hb.lt;clear hb hbel
  generalize hbb:w.heap.size=bb at *
  have HBB:=znq hbb
  clear hbb
  go_wp2_with fail
  refine (k5 (wi (xf un 4) 2) (yp un 60) _).mono ?_
  rintro e w2 ⟨rfl,hbel⟩
  rw [HU.znr.1]
  have HS:=znq (HS.znr.later hbel)
  clear hbel hcv
  go_wp2_with (refine (HS.znr.get 0 rfl).mM rfl rfl rfl (cs:=u.map B) rfl zc (by simp [zd]) HUV.znr (zg _) ?_)
  intro w6 hb ho
  have HE:=znq (zk HS.znr.bel ho (by omega))
  clear ho
  go_wp2
  refine hb.result rfl rfl rfl zc HUV.znr ⟨rfl,?_⟩
  rw [HBB.znr]
  exact HE.znr
 | false =>
  obtain rfl:k=3:=hk
  go_enter Tryz.func347,Tryz.ntmps347
  go_wp2_with (refine ze 59 ((zf 16).map B) _ rfl rfl zj rfl ?_)
  intro w1 hb hbel;have HS:=znq (HS.znr.push hb hbel);have hlt1:=hb.lt;clear hb hbel
  generalize hbb:w.heap.size=bb at *
  have HBB:=znq hbb
  clear hbb
  go_wp2_with fail
  refine (k5 (wi (xf un 4) 3) (yp un 60) _).mono ?_
  rintro e w2 ⟨rfl,hbel⟩
  rw [HU.znr.1]
  have HS:=znq (HS.znr.later hbel)
  clear hbel hcv
  go_wp2_with (refine (HS.znr.get 0 rfl).mM rfl rfl rfl (cs:=u.map B) rfl zc (by simp [zd]) HUV.znr (zg _) ?_)
  intro w6 hb ho
  have HE:=znq (zk HS.znr.bel ho (by omega))
  clear ho
  go_wp2
  refine hb.result rfl rfl rfl zc HUV.znr ⟨rfl,?_⟩
  rw [HBB.znr]
  exact HE.znr
theorem YI (tw m:List UInt8):(kE tw m).length≤16+(tw.length+15)+(m.length+16):=by
 unfold kE
 have h1:=(ky tw).2
 split
 ·rw [q8,q8,kD,zZ]
  omega
 ·rw [q8,q8,kD,zZ]
  have:(qv m 1 16).length≤m.length+16:=by
   have:=(ky (m++[1])).2
   rw [q8] at this
   exact this
  omega
theorem zfj (ao:Option Addr) (n cap:Nat) (tw:List UInt8) (bo:Option Addr) (m mc:Nat) (b:List UInt8) (w:World) (hn:tw.length=n) (hc:n≤cap) (hn6:n≤100000) (hl:zr w ao (tw.map B)) (hm:b.length=m) (hmc:m≤mc) (hm6:m≤100000) (hlb:zr w bo (b.map B)) :
  Calls Tryz.prog 342 #[.slice ao n cap,.slice bo m mc] w fun e w'=>∃ v,e=.returned v∧w'.ownsRow w.heap.size 5 1 v (kE tw b).length ((kE tw b).map B)∧Below w.heap.size w w':=by
 have HN:=znq hn
 have HL:=znq hl
 have HM:=znq hm
 have HLB:=znq hlb
 have HEL:=znq (show (kE tw b).length≤1000000 by have:=YI tw b;omega)
 obtain ⟨d,hd⟩:∃ d,d=kF tw 16:=⟨_,rfl⟩
 obtain ⟨dn,hdn⟩:∃ x,x=d.length:=⟨_,rfl⟩
 have HD:=znq (show kF tw 16=d∧d.length=dn from ⟨hd.symm,hdn.symm⟩)
 have HDN:=znq (show n+j8 n 16=dn from by rw [hdn,hd,kF,q8,bZ,hn])
 have HS:=znq (St.start w)
 have hmr:((m:Int) % 16)=((m % 16:Nat):Int):=by omega
 clear hn hl hm hlb hd hdn
 by_cases h16:m % 16=0
 ·obtain ⟨u,hu⟩:∃ u,u=kD n 2:=⟨_,rfl⟩
  have HU:=znq (show kD n 2=u∧u.length=16 from ⟨hu.symm,by rw [hu];exact zZ _⟩)
  have HUV:=znq (show (u.map B).length=16 by rw [yf];exact HU.znr.2)
  have HE:=znq (show kE tw b=u++d++b∧True from ⟨by unfold kE;rw [if_pos (by rw [HM.znr];exact h16),HN.znr,HU.znr.1,HD.znr.1],trivial⟩)
  rw [HE.znr.1]
  rw [HE.znr.1] at HEL
  have hq3:(m:Int) % 16=0:=by omega
  have HMB:=HM
  clear h16 hmr hu HE
  go_enter Tryz.func342,Tryz.ntmps342
  generalize hbb:w.heap.size=bb at *
  have HBB:=znq hbb
  have HBW:=znq (show ∀ wz L,St w bb wz L→Below w.heap.size w wz from fun wz L h=>by rw [hbb];exact h.bel)
  clear hbb
  go_wp2_with fail
  refine (Vi n true _).mono ?_
  rintro e w1 ⟨rfl,hbel⟩
  rw [show kD n (if true=true then 2 else 3)=u from HU.znr.1]
  have HS:=znq (HS.znr.later hbel)
  have hz1:=HS.znr.size
  clear hbel
  go_wp2_with (refine ze 59 ((zf 16).map B) _ rfl rfl zj rfl ?_)
  intro w2 hb hbel
  have HS:=znq (HS.znr.push hb hbel)
  have hlt2:=hb.lt
  clear hb hbel
  generalize w1.heap.size=b1 at *
  go_wp2_with (refine (HS.znr.get 0 rfl).mM rfl rfl rfl (cs:=u.map B) rfl zc (by rw [yf,zd]) HUV.znr (zg _) ?_)
  intro w3 hb ho
  have HS:=znq (HS.znr.change 0 hb ho (by omega) (by simp))
  clear hb ho
  go_wp2_with fail
  refine zn [0,1,3,2,4,5,6] (by kernel_rfl) (by kernel_rfl) ?_
  rintro w5 rfl
  have HLB:=znq (HLB.znr.below (HBW.znr _ _ HS.znr.drew))
  have HS:=znq HS.znr.drew
  refine mqR ?_
  refine zi rfl rfl (by rfl) (fun K hK=>?_)
  go_simp
  refine (Zh ao n cap 16 tw _ HN.znr (by omega) (by omega) (by omega) (HL.znr.below (HBW.znr _ _ HS.znr))).mono ?_
  rintro e w6 ⟨v6,rfl,hown6,mQ⟩
  rw [HDN.znr] at hown6
  obtain ⟨a6,c6,rfl,hc6,_,hl6⟩:=zw hown6
  rw [HD.znr.1] at hl6
  have HL6:=znq hl6
  have HS:=znq (HS.znr.later mQ)
  have HLB:=znq (HLB.znr.below mQ)
  clear hown6 hl6
  simp only [id]
  go_simp
  refine hK _ _ mQ ?_
  clear hK K mQ
  refine zi rfl rfl (by rfl) (fun K hK=>?_)
  go_simp
  refine hK _ _ (zD _ _) ?_
  clear hK K
  have HST:=znq (show xY (w6.alloc (.cells #[.slice (some ⟨b1,0,none⟩) 16 16,.slice a6 dn c6,.slice bo m mc] 22)) (some ⟨w6.heap.size,0,none⟩) [⟨some ⟨b1,0,none⟩,16,u⟩,⟨a6,c6,d⟩,⟨bo,mc,b⟩] from ⟨by
    have:=(Blk.new w6 [.slice (some ⟨b1,0,none⟩) 16 16,.slice a6 dn c6,.slice bo m mc] 22).lies
    simpa [Str.val,HMB.znr,HU.znr.2,HD.znr.2] using this,by
    intro s hs
    simp at hs
    rcases hs with rfl | rfl | rfl
    ·exact ⟨by rw [HU.znr.2];exact xc _,(HS.znr.get 0 rfl).lies.below (zD _ _)⟩
    ·exact ⟨by rw [HD.znr.2];exact hc6,HL6.znr.below (zD _ _)⟩
    ·exact ⟨by rw [HMB.znr];exact hmc,HLB.znr.below (zD _ _)⟩⟩)
  have zhA:=znq (show zin [⟨some ⟨b1,0,none⟩,16,u⟩,⟨a6,c6,d⟩,⟨bo,mc,b⟩]=u++d++b from by simp [zin])
  have HS:=znq (HS.znr.later (zD w6 (.cells #[.slice (some ⟨b1,0,none⟩) 16 16,.slice a6 dn c6,.slice bo m mc] 22)))
  have hz6:=HS.znr.size
  obtain ⟨w7,hw7⟩:∃ w7,w7=w6.alloc (.cells #[.slice (some ⟨b1,0,none⟩) 16 16,.slice a6 dn c6,.slice bo m mc] 22):=⟨_,rfl⟩
  rw [← hw7] at HST HS hz6
  rw [← hw7]
  clear hw7 HL6 HLB
  refine zi rfl rfl (by rfl) (fun K hK=>?_)
  go_simp
  refine (YU _ 3 3 _ _ rfl (by omega) HST.znr (by rw [zhA.znr];exact HEL.znr)).mono ?_
  rintro e w8 ⟨v8,rfl,hown,hbel⟩
  rw [zhA.znr] at hown
  have HOWN:=znq (yi hown hz6)
  have HS:=znq (HS.znr.later hbel)
  clear hown
  go_simp
  refine hK _ _ hbel ?_
  clear hK K hbel
  refine mqR ?_
  refine zo ?_
  go_wp2
  go_ret
  exact ⟨_,rfl,HOWN.znr,HS.znr.bel⟩
 ·obtain ⟨u,hu⟩:∃ u,u=kD n 3:=⟨_,rfl⟩
  have HU:=znq (show kD n 3=u∧u.length=16 from ⟨hu.symm,by rw [hu];exact zZ _⟩)
  have HUV:=znq (show (u.map B).length=16 by rw [yf];exact HU.znr.2)
  obtain ⟨k,hk⟩:∃ k,k=qv b 1 16:=⟨_,rfl⟩
  obtain ⟨kn,hkn⟩:∃ x,x=k.length:=⟨_,rfl⟩
  have HK:=znq (show qv b 1 16=k∧True from ⟨hk.symm,trivial⟩)
  have HMB:=znq (show k.length=kn from hkn.symm)
  have HDM:=znq (show m+1+j8 (m+1) 16=kn from by
   rw [hkn,hk]
   unfold qv kF
   rw [q8,bZ,q8,HM.znr]
   rfl)
  have HE:=znq (show kE tw b=u++d++k∧True from ⟨by unfold kE;rw [if_neg (by rw [HM.znr];exact h16),HN.znr,HU.znr.1,HD.znr.1,HK.znr.1],trivial⟩)
  rw [HE.znr.1]
  rw [HE.znr.1] at HEL
  have hq3:¬ ((m:Int) % 16=0):=by omega
  have hq4:(((m:Int) % 16)==0)=false:=by simp;omega
  clear h16 hmr hu hk hkn HE
  go_enter Tryz.func342,Tryz.ntmps342
  generalize hbb:w.heap.size=bb at *
  have HBB:=znq hbb
  have HBW:=znq (show ∀ wz L,St w bb wz L→Below w.heap.size w wz from fun wz L h=>by rw [hbb];exact h.bel)
  clear hbb
  go_wp2_with fail
  refine (Vi n false _).mono ?_
  rintro e w1 ⟨rfl,hbel⟩
  rw [show kD n (if false=true then 2 else 3)=u from HU.znr.1]
  have HS:=znq (HS.znr.later hbel)
  have hz1:=HS.znr.size
  clear hbel
  go_wp2_with (refine ze 59 ((zf 16).map B) _ rfl rfl zj rfl ?_)
  intro w2 hb hbel
  have HS:=znq (HS.znr.push hb hbel)
  have hlt2:=hb.lt
  clear hb hbel
  generalize w1.heap.size=b1 at *
  go_wp2_with (refine (HS.znr.get 0 rfl).mM rfl rfl rfl (cs:=u.map B) rfl zc (by rw [yf,zd]) HUV.znr (zg _) ?_)
  intro w3 hb ho
  have HS:=znq (HS.znr.change 0 hb ho (by omega) (by simp))
  clear hb ho
  go_wp2_with fail
  refine (QE bo m mc 16 1 b _ HM.znr (by omega) (by omega) (by omega) (HLB.znr.below (HBW.znr _ _ HS.znr))).mono ?_
  rintro e w4 ⟨v4,rfl,hown,hbel⟩
  rw [HDM.znr] at hown
  obtain ⟨a4,c4,rfl,hc4,_,hl4⟩:=zw hown
  rw [HK.znr.1] at hl4
  have HLB:=znq hl4
  have HS:=znq (HS.znr.later hbel)
  clear hown hl4 hbel
  simp only [id]
  go_wp2_with fail
  refine zn [0,1,3,2,4,5,6] (by kernel_rfl) (by kernel_rfl) ?_
  rintro w5 rfl
  have HLB:=znq (HLB.znr.below (Below.refl _ _).drew)
  have HS:=znq HS.znr.drew
  refine mqR ?_
  refine zi rfl rfl (by rfl) (fun K hK=>?_)
  go_simp
  refine (Zh ao n cap 16 tw _ HN.znr (by omega) (by omega) (by omega) (HL.znr.below (HBW.znr _ _ HS.znr))).mono ?_
  rintro e w6 ⟨v6,rfl,hown6,mQ⟩
  rw [HDN.znr] at hown6
  obtain ⟨a6,c6,rfl,hc6,_,hl6⟩:=zw hown6
  rw [HD.znr.1] at hl6
  have HL6:=znq hl6
  have HS:=znq (HS.znr.later mQ)
  have HLB:=znq (HLB.znr.below mQ)
  clear hown6 hl6
  simp only [id]
  go_simp
  refine hK _ _ mQ ?_
  clear hK K mQ
  refine zi rfl rfl (by rfl) (fun K hK=>?_)
  go_simp
  refine hK _ _ (zD _ _) ?_
  clear hK K
  have HST:=znq (show xY (w6.alloc (.cells #[.slice (some ⟨b1,0,none⟩) 16 16,.slice a6 dn c6,.slice a4 kn c4] 22)) (some ⟨w6.heap.size,0,none⟩) [⟨some ⟨b1,0,none⟩,16,u⟩,⟨a6,c6,d⟩,⟨a4,c4,k⟩] from ⟨by
    have:=(Blk.new w6 [.slice (some ⟨b1,0,none⟩) 16 16,.slice a6 dn c6,.slice a4 kn c4] 22).lies
    simpa [Str.val,HMB.znr,HU.znr.2,HD.znr.2] using this,by
    intro s hs
    simp at hs
    rcases hs with rfl | rfl | rfl
    ·exact ⟨by rw [HU.znr.2];exact xc _,(HS.znr.get 0 rfl).lies.below (zD _ _)⟩
    ·exact ⟨by rw [HD.znr.2];exact hc6,HL6.znr.below (zD _ _)⟩
    ·exact ⟨by rw [HMB.znr];exact hc4,HLB.znr.below (zD _ _)⟩⟩)
  have zhA:=znq (show zin [⟨some ⟨b1,0,none⟩,16,u⟩,⟨a6,c6,d⟩,⟨a4,c4,k⟩]=u++d++k from by simp [zin])
  have HS:=znq (HS.znr.later (zD w6 (.cells #[.slice (some ⟨b1,0,none⟩) 16 16,.slice a6 dn c6,.slice a4 kn c4] 22)))
  have hz6:=HS.znr.size
  obtain ⟨w7,hw7⟩:∃ w7,w7=w6.alloc (.cells #[.slice (some ⟨b1,0,none⟩) 16 16,.slice a6 dn c6,.slice a4 kn c4] 22):=⟨_,rfl⟩
  rw [← hw7] at HST HS hz6
  rw [← hw7]
  clear hw7 HL6 HLB
  refine zi rfl rfl (by rfl) (fun K hK=>?_)
  go_simp
  refine (YU _ 3 3 _ _ rfl (by omega) HST.znr (by rw [zhA.znr];exact HEL.znr)).mono ?_
  rintro e w8 ⟨v8,rfl,hown,hbel⟩
  rw [zhA.znr] at hown
  have HOWN:=znq (yi hown hz6)
  have HS:=znq (HS.znr.later hbel)
  clear hown
  go_simp
  refine hK _ _ hbel ?_
  clear hK K hbel
  refine mqR ?_
  refine zo ?_
  go_wp2
  go_ret
  exact ⟨_,rfl,HOWN.znr,HS.znr.bel⟩
theorem zdq (h:List UInt8) (ao:Option Addr) (n cap:Nat) (tw:List UInt8) (bo:Option Addr) (m mc:Nat) (b:List UInt8) (w:World) (hh:h.length=16) (hn:tw.length=n) (hc:n≤cap) (hn6:n≤100000) (hl:zr w ao (tw.map B)) (hm:b.length=m) (hmc:m≤mc) (hm6:m≤100000) (hlb:zr w bo (b.map B)) :
  Calls Tryz.prog 339 #[.agg (h.map B).toArray,.slice ao n cap,.slice bo m mc] w fun e w'=>e=.returned (.agg ((Go.Hct.nN h tw b).map B).toArray)∧Below w.heap.size w w':=by
 have HH:=znq (show h.length=16∧True from ⟨hh,trivial⟩)
 have HHV:=znq (show (h.map B).length=16 by rw [yf];exact hh)
 have HN:=znq hn
 have HL:=znq hl
 have HM:=znq hm
 have HLB:=znq hlb
 obtain ⟨x,hx⟩:∃ x,x=kE tw b:=⟨_,rfl⟩
 obtain ⟨xn,hxn⟩:∃ y,y=x.length:=⟨_,rfl⟩
 have HX:=znq (show kE tw b=x∧x.length=xn∧xn≤1000000 from ⟨hx.symm,hxn.symm,by rw [hxn,hx];have:=YI tw b;omega⟩)
 obtain ⟨u,hu⟩:∃ u,u=Go.Hct.nN h tw b:=⟨_,rfl⟩
 have HU:=znq (show jq (zcy h) (zf 16) (kF x 16)=u∧u.length=16 from ⟨by rw [hx,hu];rfl,by rw [hu];exact Go.Hct.nK _ _ _⟩)
 have HUV:=znq (show (u.map B).length=16 by rw [yf];exact HU.znr.2)
 rw [← hu]
 have HS:=znq (St.start w)
 clear hh hn hl hm hlb hu hx hxn
 go_enter Tryz.func339,Tryz.ntmps339
 go_wp2_with (refine zh 59 _ (h.map B) _ rfl rfl rfl rfl ?_)
 intro w1 hb hbel;have HS:=znq (HS.znr.push hb hbel);have hlt1:=hb.lt;clear hb hbel
 go_wp2_with (refine ze 59 ((zf 16).map B) _ rfl rfl zj rfl ?_)
 intro w2 hb hbel;have HS:=znq (HS.znr.push hb hbel);have hlt2:=hb.lt;clear hb hbel
 generalize hbb:w.heap.size=bb at *
 generalize w1.heap.size=b1 at *
 have HBB:=znq hbb
 have HBW:=znq (show ∀ wz L,St w bb wz L→Below w.heap.size w wz from fun wz L h=>by rw [hbb];exact h.bel)
 clear hbb
 go_wp2_with fail
 refine zn [0,1,2,3,4,5] (by kernel_rfl) (by kernel_rfl) ?_
 rintro w3 rfl
 have HS:=znq HS.znr.drew
 refine zt (HS.znr.get 1 rfl).range (HS.znr.get 1 rfl).lt zc HHV.znr rfl rfl rfl rfl (fun K hK=>?_)
 go_simp;refine hK _ ?_;clear hK K
 refine mqR ?_
 refine zi rfl rfl (by rfl) (fun K hK=>?_)
 go_simp
 refine (zfj ao n cap tw bo m mc b _ HN.znr hc hn6 (HL.znr.below (HBW.znr _ _ HS.znr)) HM.znr hmc hm6 (HLB.znr.below (HBW.znr _ _ HS.znr))).mono ?_
 rintro e w4 ⟨v4,rfl,hown,hbel⟩
 rw [HX.znr.1,HX.znr.2.1] at hown
 obtain ⟨a4,c4,rfl,hc4,_,hl4⟩:=zw hown
 have HL4:=znq hl4
 have HS:=znq (HS.znr.later hbel)
 clear hown hl4
 go_simp
 refine hK _ _ hbel ?_
 clear hK K hbel
 refine zi rfl rfl (by rfl) (fun K hK=>?_)
 go_simp
 refine (znb h a4 xn c4 x _ HH.znr.1 HX.znr.2.1 HX.znr.2.2 HL4.znr).mono ?_
 rintro e w5 ⟨rfl,hbel⟩
 rw [HU.znr.1]
 have HS:=znq (HS.znr.later hbel)
 go_simp
 refine hK _ _ hbel ?_
 clear hK K hbel
 refine zp rfl rfl (by rfl) (fun K hK=>?_)
 refine (HS.znr.get 0 rfl).mZ rfl rfl rfl zc (by rw [yf];exact zd 16) HUV.znr (zg _) (fun w7 hb7 ho7=>hK _ _ ?_)
 clear hK K
 have ny:=zk HS.znr.bel ho7 (by omega)
 go_simp
 refine zo ?_
 go_wp2
 refine hb7.result rfl rfl rfl zc HUV.znr ⟨rfl,?_⟩
 rw [HBB.znr]
 exact ny
end Go.Proofs.YtamdifhibogdiaaGreatDoor
namespace Go.Hct
open Ops Oct Trn Aes
def vB (start:List UInt8) (p:List UInt8):Nat→List UInt8
 | 0=>start
 | k+1=>(vB start p k).set k (ya (at8 (vB start p k) k) (at8 p k))
theorem YJ (s p:List UInt8):∀ k,(vB s p k).length=s.length
 | 0=>rfl
 | k+1=>by rw [vB,List.length_set,YJ s p k]
theorem zdr {s:List UInt8} (h:s.length=16) (i:Nat):vB s (zz (wF i)) 8=zak s i:=by
 match s,h with
 | [b0,b1,b2,b3,b4,b5,b6,b7,b8,b9,b10,b11,b12,b13,b14,b15],_=>rfl
def xGo (ks:List (List UInt8)) (start:List UInt8) (i:Nat) (b:List UInt8):List UInt8 :=
 if h:b.length=0 then [] else nX b (j7 ks start i)++xGo ks start (i+1) (b.drop 16)
termination_by b.length
decreasing_by simp;omega
theorem zgg (ks:List (List UInt8)) (start:List UInt8) (i:Nat):xGo ks start i []=[]:=by unfold xGo;simp
theorem zds {ks:List (List UInt8)} {start:List UInt8} {i:Nat} {b:List UInt8} (h:b.length≠0):xGo ks start i b=nX b (j7 ks start i)++xGo ks start (i+1) (b.drop 16):=by
 conv=>lhs;unfold xGo
 rw [dif_neg h]
theorem zh9 (b:List UInt8) (k j:Nat):at8 (b.drop k) j=at8 b (k+j):=by
 unfold at8
 rw [gp,gp,List.getElem?_drop]
theorem zgh (ks:List (List UInt8)) (start:List UInt8):∀ (n i:Nat) (b:List UInt8),b.length≤n→xGo ks start i b=(List.range b.length).map fun j=>ya (at8 b j) (at8 (j7 ks start (i+j / 16)) (j % 16))
 | n,i,b,h=>by
  by_cases h0:b.length=0
  ·rw [uG h0,zgg];rfl
  ·rw [zds h0]
   match n,h with
   | 0,h=>omega
   | n+1,h =>
    rw [zgh ks start n (i+1) (b.drop 16) (by rw [XQ];omega)]
    apply List.ext_getElem?
    intro j
    have hxl:(nX b (j7 ks start i)).length=min b.length 16:=by rw [Oct.mW,Zb]
    by_cases hj:j < min b.length 16
    ·rw [List.getElem?_append_left (by rw [hxl];exact hj)]
     rw [uV,dh (by omega)]
     have e1:j / 16=0:=by omega
     have e2:j % 16=j:=by omega
     simp only [cB,e1,e2,Nat.add_zero]
     unfold nX
     rw [uV,dh (by rw [Zb];exact hj)]
     rfl
    ·rw [List.getElem?_append_right (by rw [hxl];omega),hxl]
     by_cases hl:j < b.length
     ·have hm:min b.length 16=16:=by omega
      rw [hm,uV,uV,dh (by rw [XQ];omega),dh hl]
      simp only [cB,zh9]
      have e1:16+(j - 16)=j:=by omega
      have e2:i+1+(j - 16) / 16=i+j / 16:=by omega
      have e3:(j - 16) % 16=j % 16:=by omega
      rw [e1,e2,e3]
     ·rw [qc (by simp;omega),qc (by simp;omega)]
theorem zia (ks:List (List UInt8)) (start b:List UInt8):xGo ks start 1 b=xS ks start b:=zgh ks start b.length 1 b (xc _)
end Go.Hct
namespace Go.Proofs.YtamdifhibogdiaaGreatDoor
open RowKit Mem Ops Cells Oct Trn Aes Hct
attribute [local irreducible] zE zN zO zM yJ
theorem zib (kp q p:Nat) (ks:List (List UInt8)) (kb nI n cap:Nat) (s:List UInt8) (i:Nat) (u:UInt64) (w:World) (hk:qV w kp q p ks kb nI n cap) (hs:s.length=16) (hu:u=wF i) :
  Calls Tryz.prog 343 #[.pointer (some ⟨kp,0,none⟩),.agg (s.map B).toArray,L u] w fun e w'=>e=.returned (.agg ((j7 ks s i).map B).toArray)∧Below w.heap.size w w':=by
 have HK:=znq hk
 have HX:=znq (show s.length=16∧True from ⟨hs,trivial⟩)
 obtain ⟨pl,hpl⟩:∃ x,x=zz u:=⟨_,rfl⟩
 have HPL:=znq (show zz u=pl∧pl.length=8 from ⟨hpl.symm,by rw [hpl];exact zK u⟩)
 have ziC:=znq (show vB s pl 8=zak s i∧True from ⟨by rw [hpl,hu];exact zdr hs i,trivial⟩)
 have HS:=znq (St.start w)
 clear hk hs hu hpl
 go_enter Tryz.func343,Tryz.ntmps343
 go_wp2_with (refine zh 59 _ (s.map B) _ rfl rfl rfl rfl ?_)
 intro w1 hb hbel;have HS:=znq (HS.znr.push hb hbel);have hlt1:=hb.lt;clear hb hbel
 go_wp2_with (refine ze 59 ((zf 16).map B) _ rfl rfl zj rfl ?_)
 intro w2 hb hbel;have HS:=znq (HS.znr.push hb hbel);have hlt2:=hb.lt;clear hb hbel
 generalize hbb:w.heap.size=bb at *
 generalize w1.heap.size=b1 at *
 have HBB:=znq hbb
 have HBW:=znq (show ∀ wz L,St w bb wz L→Below w.heap.size w wz from fun wz L h=>by rw [hbb];exact h.bel)
 clear hbb
 go_wp2_with fail
 refine (kH u _).mono ?_
 rintro e w3 ⟨rfl,hbel⟩
 rw [HPL.znr.1]
 have HS:=znq (HS.znr.later hbel)
 clear hbel
 go_wp2
 go_loopw [11] (fun c wr=>∃ (j:Nat) (l:List UInt8),j≤8∧c=.int .i64 j∧Hid (l=vB s pl j∧True)∧Hid (St w bb wr [(b1,(zf 16).map B,59),(bb,l.map B,59)])) (fun c _=>8 - (intOf c).toNat)
 case atStart=>exact ⟨0,s,by omega,rfl,znq ⟨rfl,trivial⟩,HS⟩
 case round =>
  clear HS
  obtain ⟨j,l,hj,rfl,HE,HS⟩:=hrel
  have zaF:=znq (show l.length=16∧True from ⟨by rw [HE.znr.1,YJ];exact HX.znr.1,trivial⟩)
  by_cases hlt:j < 8
  ·have hd:decide ((j:Int) < 8)=true:=by simp;omega
   have hix:=fun w':World=>qF (P:=Tryz.prog) w' 127 5 8 (pl.map B).toArray .i64 j (B (at8 pl j)) Tryz.underlying127 (by kernel_rfl) zl (by rw [List.getElem?_toArray];exact zU (q4 (by rw [HPL.znr.2];exact hlt))) hlt
   have hc:=(HS.znr.get 1 rfl).cell j _ (zU (q4 (b:=l) (i:=j) (by rw [zaF.znr.1];omega)))
   have HN:=znq (show l.set j (ya (at8 l j) (at8 pl j))=vB s pl (j+1)∧True from ⟨by rw [vB,← HE.znr.1],trivial⟩)
   go_wp2_with (refine (HS.znr.get 1 rfl).ry (i:=j) (v:=B (ya (at8 l j) (at8 pl j))) rfl rfl rfl rfl zl rfl rfl (by rw [yf,zaF.znr.1];omega) ?_)
   intro w4 hb ho
   rw [ym] at hb
   have HS:=znq (HS.znr.change 1 hb ho (by omega) (by simp;omega))
   clear hb ho hc hix
   go_wp2
   go_roundw
   case rel=>exact ⟨j+1,_,by omega,by go_num,HN,HS⟩
   case measure=>simp [intOf];omega
  ·obtain rfl:j=8:=by omega
   have HE:=znq (show l=zak s i∧True from ⟨by rw [HE.znr.1,ziC.znr.1],trivial⟩)
   have HLV:=znq (show (l.map B).length=16 by rw [yf];exact zaF.znr.1)
   go_wp2_with (refine (HS.znr.get 1 rfl).mP rfl rfl rfl zc HLV.znr ?_)
   refine (K7 kp q p ks kb nI n cap l _ (HK.znr.later (HBW.znr _ _ HS.znr)) zaF.znr.1).mono ?_
   rintro e w4 ⟨rfl,hbel⟩
   have HS:=znq (HS.znr.later hbel)
   clear hbel
   obtain ⟨v,hv⟩:∃ x,x=enc ks l:=⟨_,rfl⟩
   have HV:=znq (show j7 ks s i=v∧v.length=16 from ⟨by rw [hv,HE.znr.1];rfl,by rw [hv];exact xJ _ _⟩)
   have HVV:=znq (show (v.map B).length=16 by rw [yf];exact HV.znr.2)
   rw [← hv]
   clear hv
   go_wp2_with (refine (HS.znr.get 0 rfl).mM rfl rfl rfl (cs:=v.map B) rfl zc (by simp [zd]) HVV.znr (zg _) ?_)
   intro w5 hb ho
   go_wp2
   refine hb.result rfl rfl rfl zc HVV.znr ⟨by rw [HV.znr.1],?_⟩
   rw [HBB.znr]
   exact zk HS.znr.bel ho (by omega)
end Go.Proofs.YtamdifhibogdiaaGreatDoor
namespace Go.Proofs.YtamdifhibogdiaaGreatDoor
open RowKit Mem Ops Cells Oct Trn Aes Hct
attribute [local irreducible] zE zN zO zM yJ
abbrev zgi (kp bs:Nat) (sl v:Value) (u:UInt64) (us:Nat→Value):Act:={ tmps:=#[.pointer (some ⟨kp,0,none⟩),us 1,sl,us 3,.pointer (some ⟨bs,0,none⟩),us 5,us 6,us 7,v,L u,us 10,us 11,us 12,us 13,us 14,us 15,us 16,us 17,us 18,us 19,us 20,us 21,us 22,us 23,us 24,us 25,us 26,us 27,us 28,us 29,us 30,us 31,us 32,us 33,us 34,us 35,us 36],defers:=[] }
def zhB (kp bs:Nat) (ks:List (List UInt8)) (s b:List UInt8) (w:World) (x:Act) (wr:World):Prop :=
 ∃ (bz:Nat) (us:Nat→Value) (ao:Option Addr) (n c:Nat) (rest:List UInt8) (v:Value) (k:Nat) (outs:List UInt8) (many:Nat) (u:UInt64),x=zgi kp bs (.slice ao n c) v u us∧bs < bz∧n≤c∧k+n=b.length∧Hid (rest.length=n)∧Hid (zr w ao (rest.map B))∧Hid (u=wF many∧True) ∧
  Hid (outs.length=k∧outs++xGo ks s many rest=xS ks s b)∧Hid (wr.ownsRow bz 5 1 v k (outs.map B)) ∧
  Hid (St w bs wr [(bs,s.map B,59)])∧bz≤wr.heap.size
theorem zhB.intro {kp bs:Nat} {ks:List (List UInt8)} {s b:List UInt8} {w:World} {x:Act} {wr:World} (bz:Nat) (ao:Option Addr) (n c:Nat) (rest:List UInt8) (v:Value) (k:Nat) (outs:List UInt8) (many:Nat) (u:UInt64)
  (hx:x=zgi kp bs (.slice ao n c) v u (fun i=>x.tmps.getD i undef)) (g1:bs < bz) (h1:n≤c) (h2:k+n=b.length) (h3:rest.length=n) (h4:zr w ao (rest.map B)) (h5:u=wF many) (h7:outs.length=k∧outs++xGo ks s many rest=xS ks s b)
  (h8:wr.ownsRow bz 5 1 v k (outs.map B)) (h9:St w bs wr [(bs,s.map B,59)]) (h10:bz≤wr.heap.size):zhB kp bs ks s b w x wr :=
 ⟨bz,_,ao,n,c,rest,v,k,outs,many,u,hx,g1,h1,h2,h3,h4,⟨h5,trivial⟩,h7,h8,h9,h10⟩
theorem zic (kp q p:Nat) (ks:List (List UInt8)) (kb nI kn pK:Nat) (s:List UInt8) (ao:Option Addr) (n cap:Nat) (b:List UInt8) (w:World) (hk:qV w kp q p ks kb nI kn pK) (hs:s.length=16) (hb:b.length=n) (hc:n≤cap) (hn:n≤1000000) (hl:zr w ao (b.map B)) :
  Calls Tryz.prog 340 #[.pointer (some ⟨kp,0,none⟩),.agg (s.map B).toArray,.slice ao n cap] w fun e w'=>∃ v,e=.returned (.tuple #[v,.int .i64 0])∧w'.ownsRow w.heap.size 5 1 v n ((xS ks s b).map B)∧Below w.heap.size w w':=by
 obtain ⟨i0,hi0,hz0,hz1,hz2⟩:=info_parts yq
 have HI:=znq (And.intro hi0 (And.intro hz0 (And.intro hz1 hz2)))
 have HK:=znq hk
 have HX:=znq (show s.length=16∧True from ⟨hs,trivial⟩)
 have HXV:=znq (show (s.map B).length=16 by rw [yf];exact hs)
 have HB:=znq hb
 have HL:=znq hl
 have HS:=znq (St.start w)
 clear hk hs hb hl hi0 hz0 hz1 hz2
 go_enter Tryz.func340,Tryz.ntmps340
 go_wp2_with (refine zh 59 _ (s.map B) _ rfl rfl rfl rfl ?_)
 intro w1 hb hbel;have HS:=znq (HS.znr.push hb hbel);have hlt1:=hb.lt;clear hb hbel
 generalize hbb:w.heap.size=bb at *
 have HBB:=znq hbb
 have HBW:=znq (show ∀ wz L,St w bb wz L→Below w.heap.size w wz from fun wz L h=>by rw [hbb];exact h.bel)
 clear hbb
 go_wp2_with fail
 refine yd 0 (zhB kp bb ks s b w) (fun x _=>X9 (x.tmps.getD 2 undef)) rfl ?_ ?_
 ·simp only [q9]
  go_wp2_with (at_make;refine wpList_make_own _ rfl _ _ 22 rfl w1.heap.size 5 i0 (.int .u8 0) 1 Tryz.underlying22 HI.znr.1 HI.znr.2.1 HI.znr.2.2.1 _ _ _ n rfl rfl ?m1 ?m2 ?m3 (xc _) ?_)
  case m1=>simp
  case m2=>rw [HI.znr.2.2.2];omega
  case m3=>unfold maxLen;omega
  intro w9 hown hgrow
  have HOWN:=znq hown
  have nM:Below w1.heap.size w1 w9:=(Below.refl w1.heap.size w1).grown hgrow (xc _) (fun k h=>by cases h)
  have HS:=znq (HS.znr.later nM)
  have hz9:=nM.size
  clear hown hgrow nM
  go_wp2
  exact zhB.intro w1.heap.size ao n cap b _ 0 [] 1 _ rfl hlt1 hc (by simp;exact HB.znr.symm) HB.znr HL.znr rfl ⟨rfl,by rw [uo];exact zia _ _ _⟩ HOWN.znr HS.znr hz9
 ·clear HS
  rintro x wr ⟨bz,us,ao,n',c,rest,v,k,outs,many,u,rfl,g1,hnc,hkn,HRL,HLR,HU,zcD,HO,HS,hbz⟩
  by_cases h0:n'=0
  ·subst h0
   have HE:=znq (show outs=xS ks s b∧k=n from ⟨by have h1:=zcD.znr.2;rw [uG HRL.znr,zgg,bC] at h1;exact h1,by rw [← HB.znr];omega⟩)
   rw [HE.znr.1,HE.znr.2] at HO
   go_wp2
   go_ret2
   refine ⟨_,rfl,yi HO.znr (by have:=HBB.znr;omega),?_⟩
   rw [HBB.znr]
   exact HS.znr.bel
  ·have d0:((n':Int)==0)=false:=by simp;omega
   obtain ⟨r,hr⟩:∃ r,r=min n' 16:=⟨_,rfl⟩
   have hq1:1≤r:=by omega
   have hq2:r≤n':=by omega
   have hq3:r≤16:=by omega
   have HQ:=znq (show r=min n' 16∧True from ⟨hr,trivial⟩)
   have hkb:k+n'≤1000000:=by have:=HB.znr;omega
   have HKN:=znq (show k+n'=b.length∧True from ⟨hkn,trivial⟩)
   clear hr hkn
   go_wp2_with (refine (HS.znr.get 0 rfl).mP rfl rfl rfl zc HXV.znr ?_)
   refine (zib kp q p ks kb nI kn pK s many u _ (HK.znr.later (HBW.znr _ _ HS.znr)) HX.znr.1 HU.znr.1).mono ?_
   rintro e w6 ⟨rfl,hbel⟩
   have HO:=znq (zm HO.znr hbel)
   have HS:=znq (HS.znr.later hbel)
   have hz6:=hbel.size
   clear hbel
   obtain ⟨blk,hblk⟩:∃ x,x=j7 ks s many:=⟨_,rfl⟩
   have HBK:=znq (show j7 ks s many=blk∧blk.length=16 from ⟨hblk.symm,by rw [hblk];exact Zb _ _ _⟩)
   have HBV:=znq (show (blk.map B).length=16 by rw [yf];exact HBK.znr.2)
   rw [← hblk]
   clear hblk
   have f5:bb < w6.heap.size:=HS.znr.ne _ (List.mem_of_getElem? (i:=0) rfl)
   go_wp2_with (refine ze 59 ((zf 16).map B) _ rfl rfl zj rfl ?_)
   intro w7 hb hbel
   have HO:=znq (zm HO.znr hbel)
   have HS:=znq (HS.znr.push hb hbel);have zcQ:=hb.lt;clear hb hbel
   generalize hb6:w6.heap.size=b6 at *
   clear hb6
   go_wp2_with (refine (HS.znr.get 0 rfl).mM rfl rfl rfl (cs:=blk.map B) rfl zc (by rw [yf,zd]) HBV.znr (zg _) ?_)
   intro w8 hb ho
   have HO:=znq (zu HO.znr (HS.znr.get 0 rfl) (by decide) ho)
   have HS:=znq (HS.znr.change 0 hb ho (by omega) (by simp;omega))
   have hz8:w8.heap.size=w7.heap.size:=ho.size
   clear hb ho
   go_wp2_with fail
   refine (j1 ao (some ⟨b6,0,none⟩) n' 16 c 16 rest blk _ HRL.znr HBK.znr.2 (by omega) (by omega) (HLR.znr.below (HBW.znr _ _ HS.znr)) (HS.znr.get 0 rfl).lies).mono ?_
   rintro e w9 ⟨v9,rfl,hown,hbel⟩
   obtain ⟨a9,c9,rfl,_,_,hl⟩:=zw hown
   have HO:=znq (zm HO.znr hbel)
   have HS:=znq (HS.znr.later hbel)
   have HL9:=znq hl
   have hz9:=hbel.size
   clear hown hl hbel
   simp only [id]
   rw [← HQ.znr.1]
   have HXL:=znq (show (nX rest blk).length=r by rw [Oct.mW,HRL.znr,HBK.znr.2];exact HQ.znr.1.symm)
   go_wp2_with (at_builtin;refine yD rfl (.tmp 28) (.tmp 29) 22 rfl bz 5 i0 (.int .u8 0) 1 Tryz.underlying22 HI.znr.1 HI.znr.2.1 HI.znr.2.2.1 HI.znr.2.2.2 rfl v k (outs.map B) rfl HO.znr a9 r c9 ((nX rest blk).map B) rfl (by rw [yf];exact HXL.znr) HL9.znr (j9 _) (by unfold maxLen;omega) (by omega) (by omega) ?_)
   intro v10 w10 hown hg
   have nE:Below bz w9 w10:=z8 (Below.refl bz w9) HO.znr hg (xc _) (by omega)
   have HS:=znq (show St w bb w10 [(bb,s.map B,59)] from (HS.znr.sub (L':=[(bb,s.map B,59)]) (by intro e he;simp at he;rcases he with rfl | rfl <;> simp)).low nE (by omega) (by intro e he;simp at he;rcases he with rfl | rfl <;> simp <;> omega))
   have HO:=znq (show w10.ownsRow bz 5 1 v10 (k+r) ((outs++nX rest blk).map B) from by rw [List.map_append];exact hown)
   have JP:=nE.size
   clear hown hg nE
   have hsl:=fun (w':World)=>yv (P:=Tryz.prog) w' 22 5 1 Tryz.underlying22 zl ao n' c r r rfl hq2
   have HDR:=znq (show rest.drop 16=rest.drop r∧True from ⟨by
    by_cases h:n'≤16
    ·rw [Yx (by rw [HRL.znr];omega),Yx (by rw [HRL.znr];have:=HQ.znr.1;omega)]
    ·have:=HQ.znr.1;rw [show r=16 by omega],trivial⟩)
   have HOU:=znq (show (outs++nX rest blk).length=k+r∧(outs++nX rest blk)++xGo ks s (many+1) (rest.drop r)=xS ks s b from ⟨by rw [q8,zcD.znr.1,HXL.znr],by
    rw [← zcD.znr.2,zds (b:=rest) (by rw [HRL.znr];exact h0),HBK.znr.1,HDR.znr.1,List.append_assoc]⟩)
   go_wp2
   refine wp_goto ⟨rfl,zhB.intro bz (yy ao c r) (n' - r) (c - r) (rest.drop r) v10 (k+r) (outs++nX rest blk) (many+1) _ rfl g1 (by omega) (by have:=HKN.znr.1;omega) (by rw [XQ,HRL.znr]) (zr.rJ HLR.znr (by rw [HRL.znr];exact hnc) r) ?_ HOU.znr HO.znr HS.znr (by omega),?_⟩
   ·rw [HU.znr.1]
    exact (UInt64.ofNat_add many 1).symm
   ·simp [X9];omega
end Go.Proofs.YtamdifhibogdiaaGreatDoor

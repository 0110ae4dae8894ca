/-
  Texts of this claim, one behind the other.
-/
import Derived.Test.YtjaioajjfiaheaaGreatDoorV1
import Derived.Test.YtjaioajjfiaheaaGreatDoorV19
import Derived.Test.YtjaioajjfiaheaaGreatDoorV13
import Derived.Test.YtjaioajjfiaheaaGreatDoorV17
import Derived.Test.YtjaioajjfiaheaaGreatDoorV4
import Derived.Test.YtjaioajjfiaheaaGreatDoorV9
import Derived.Test.YtjaioajjfiaheaaGreatDoorV11
import Derived.Lib.Hide
set_option linter.unusedVariables false
set_option linter.unusedSimpArgs false
set_option maxHeartbeats 16000000
set_option maxRecDepth 100000
open List renaming append_assoc→QA,append_nil→bC,drop_append→bK,drop_append_of_le_length→bP,drop_eq_nil_of_le→Yx,ext_getElem?→uA,getElem?_eq_none→qc,getElem?_set→uU,length_append→q8,length_drop→XQ,length_map→yf,length_take→Ku,map_drop→dz,map_take→bN,mem_of_getElem?→xU,nil_append→uo,replicate→wh,set_append_right→dD,take_append→gz,take_append_of_le_length→uD,take_of_length_le→Y2,take_zero→cO
open Nat renaming le_refl→xc,lt_or_ge→bg,min_eq_left→cz,mod_lt→ma,zero_add→bH
open UInt64 renaming ofNat→wF
namespace Go.Cha
open Ops Oct Trn
def Zs (t s:List UInt32) (i:Nat):List UInt32:=(List.range 16).map fun r=>if r < i then jI (yR t r) (yR s r) else yR t r
theorem jk (t s:List UInt32) (i:Nat):(Zs t s i).length=16:=by simp [Zs]
theorem YY (t s:List UInt32) (i r:Nat) (hr:r < 16):(Zs t s i)[r]? = some (if r < i then jI (yR t r) (yR s r) else yR t r):=by
 unfold Zs
 rw [List.getElem?_map,List.getElem?_range hr]
 rfl
theorem zm2 {t:List UInt32} (s:List UInt32) (h:t.length=16):Zs t s 0=t:=by
 apply uA
 intro r
 rcases bg r 16 with hr | hr
 ·rw [YY t s 0 r hr,if_neg (by omega),qO (by omega)]
 ·rw [qc (by rw [jk];omega),qc (by omega)]
theorem zkx (t s:List UInt32):Zs t s 16=sI t s:=by
 unfold Zs sI
 apply List.map_congr_left
 intro r hr
 rw [if_pos (List.mem_range.1 hr)]
theorem zfc (t s:List UInt32) {i:Nat} (hi:i < 16):(Zs t s i).set i (jI (yR t i) (yR s i))=Zs t s (i+1):=by
 apply uA
 intro r
 rw [uU,jk]
 rcases bg r 16 with hr | hr
 ·rw [YY t s (i+1) r hr]
  by_cases e:i=r
  ·subst e
   rw [if_pos rfl,if_pos hr,if_pos (by omega)]
  ·rw [if_neg e,YY t s i r hr]
   by_cases h:r < i
   ·rw [if_pos h,if_pos (by omega)]
   ·rw [if_neg h,if_neg (by omega)]
 ·rw [if_neg (by omega),qc (by rw [jk];omega),qc (by rw [jk];omega)]
theorem zdf (a b:List UInt8) (h:a.length=b.length):splice a 0 b=b:=by
 unfold splice
 rw [cO,uo,bH,Yx (by omega),bC]
theorem zfd (z a b:List UInt8) (hz:z.length=32) (ha:a.length=16) (hb:b.length=16):splice (splice z 0 a) 16 b=a++b:=by
 unfold splice
 rw [cO,uo,bH,ha,hb,uD (by omega),Y2 (by omega),bK,Yx (by omega),List.drop_drop,Yx (by omega)]
 simp
end Go.Cha
namespace Go.Proofs.YtjaioajjfiaheaaGreatDoor
open RowKit Mem Ops Cells Oct Trn Cha
attribute [local irreducible] zE zN zO zM yJ
theorem qN {P:Program} (w:World) (t e:TypeId) (n:Nat) (ht:P.underlying t=some (.array n e)) (hs:(P.info? e).map (·.size)=some 1) (b o hi:Nat) (i:Int) (h:i=hi) (h2:hi≤n) (h3:0 < n) :
  (Instr.sliceAt t (.pointer (some ⟨b,o,none⟩)) none (some (.int .i64 i)) none).run P w=.ok (.slice (some ⟨b,o,none⟩) hi n) w:=by
 subst h
 cases hq:P.info? e with
 | none=>rw [hq] at hs;cases hs
 | some x =>
  have hx:x.size=1:=by rw [hq] at hs;simpa using hs
  have hz:(sizeOf e).run P w=.ok 1 w:=by simp [sizeOf,typeInfo,hq,hx]
  have hne:n≠0:=by omega
  simp [Instr.sliceAt,run_underlying ht,Instr.sureAddr,Instr.sliceBounds,Instr.sliceBound,asIntOf,hz,h2,hne,add_eq,show ¬ n < hi by omega]
  try simp [Addr.add]
theorem wI:Row Tryz.prog 215 64:=⟨by kernel_rfl,by kernel_rfl⟩
theorem yP:Row Tryz.prog 186 32:=⟨by kernel_rfl,by kernel_rfl⟩
theorem ZU:(Tryz.prog.info? 215).map (·.zero)=some (some (.agg ((zf 64).map B).toArray)):=by kernel_rfl
theorem qA:(Tryz.prog.info? 186).map (·.zero)=some (some (.agg ((zf 32).map B).toArray)):=by kernel_rfl
theorem St.tq {w0 w w':World} {base:Nat} {L:List (Nat×List Value×TypeId)} (h:St w0 base w L) (i:Nat) {b:Nat} {us:List Value} {ty:TypeId} (hb:Blk w' b us ty) (ho:zI b w w') (hbase:base≤b) (hne:∀ e∈L.eraseIdx i,e.1≠b):St w0 base w' (L.set i (b,us,ty)):=by
 refine ⟨h.nW,jP h.bel ho hbase h.size,fun e he=>?_⟩
 obtain ⟨j,hj⟩:=List.mem_iff_getElem?.1 he
 rw [uU] at hj
 by_cases e1:i=j
 ·subst e1
  rw [if_pos rfl] at hj
  split at hj
  ·cases hj;exact hb
  ·cases hj
 ·rw [if_neg e1] at hj
  exact (h.all e (xU hj)).pR ho (hne e (kA _ _ _ _ (fun h=>e1 h.symm) hj))
theorem zhw (key inn:List UInt8) (r:Nat) (w:World) (hk:key.length=32) (hi:inn.length=16) (hr:YX r) :
  Calls Tryz.prog 148 #[.agg (key.map B).toArray,.agg (inn.map B).toArray,.int .i64 r] w fun e w'=>e=.returned (.tuple #[.agg ((wW key inn r).map B).toArray,.int .i64 0])∧Below w.heap.size w w':=by
 have HK:=znq (show (key.map B).length=32 by rw [yf];exact hk)
 have HI:=znq (show (inn.map B).length=16 by rw [yf];exact hi)
 have HKL:=znq (show key.length=32∧True from ⟨hk,trivial⟩)
 have HIL:=znq (show inn.length=16∧True from ⟨hi,trivial⟩)
 have HRD:=znq hr
 have HS:=znq (St.start w)
 clear hk hi hr
 go_enter Tryz.func148,Tryz.ntmps148
 go_wp2_with (refine zh 186 _ (key.map B) _ rfl rfl rfl rfl ?_)
 intro w1 hb hbel;have HS:=znq (HS.znr.push hb hbel);have hlt1:=hb.lt;clear hb hbel
 go_wp2_with (refine zh 117 _ (inn.map B) _ rfl rfl rfl rfl ?_)
 intro w2 hb hbel;have HS:=znq (HS.znr.push hb hbel);have hlt2:=hb.lt;clear hb hbel
 go_wp2_with (refine ze 215 ((zf 64).map B) _ rfl rfl ZU rfl ?_)
 intro w3 hb hbel;have HS:=znq (HS.znr.push hb hbel);have hlt3:=hb.lt;clear hb hbel
 go_wp2_with (refine ze 215 ((zf 64).map B) _ rfl rfl ZU rfl ?_)
 intro w4 hb hbel;have HS:=znq (HS.znr.push hb hbel);have zaE:=hb.lt;clear hb hbel
 generalize hbb:w.heap.size=bb at *
 generalize w1.heap.size=b1 at *
 generalize w2.heap.size=b2 at *
 generalize w3.heap.size=b3 at *
 have HBB:=znq hbb
 clear hbb
 go_wp2_with fail
 refine (zc6 r _ HRD.znr).mono ?_
 rintro e w5 ⟨rfl,rfl⟩
 go_wp2_with (first | (refine (HS.znr.get 3 rfl).mP rfl rfl rfl yP HK.znr ?_) | (refine (HS.znr.get 2 rfl).mP rfl rfl rfl zc HI.znr ?_))
 refine (zde key inn _ HKL.znr.1 HIL.znr.1).mono ?_
 rintro e w6 ⟨rfl,hbel⟩
 have HS:=znq (HS.znr.later hbel)
 obtain ⟨ss,hss⟩:∃ ss,ss=je key inn:=⟨_,rfl⟩
 have HSS:=znq (show je key inn=ss∧True from ⟨hss.symm,trivial⟩)
 have HSL:=znq (show ss.length=16∧True from ⟨by rw [hss];exact zjf _ _,trivial⟩)
 have HSV:=znq (show (ss.map W).length=16 by rw [yf];exact HSL.znr.1)
 rw [← hss]
 have hz6:=HS.znr.size
 clear hbel hss
 have h36:b3 < w6.heap.size:=HS.znr.ne _ (xU (i:=0) rfl)
 go_wp2_with (refine ze 242 ((wh 16 (0:UInt32)).map W) _ rfl rfl qt rfl ?_)
 intro w7 hb hbel;have HS:=znq (HS.znr.push hb hbel);have zcQ:=hb.lt;clear hb hbel
 generalize w6.heap.size=b6 at *
 go_wp2_with (first | (refine (HS.znr.get 0 rfl).mP rfl rfl rfl yW HSV.znr ?_) | (refine (HS.znr.get 0 rfl).mM rfl rfl rfl (cs:=ss.map W) rfl yW rfl HSV.znr (yT _) ?_))
 intro w8 hb8 ho8
 have HS:=znq (HS.znr.change 0 hb8 ho8 (by omega) (by simp;omega))
 clear hb8 ho8
 go_wp2_with (refine (HS.znr.get 0 rfl).mP rfl rfl rfl yW HSV.znr ?_)
 refine (zc7 ss r _ HSL.znr.1 HRD.znr).mono ?_
 rintro e w9 ⟨rfl,hbel⟩
 have HS:=znq (HS.znr.later hbel)
 obtain ⟨ts,hts⟩:∃ ts,ts=xQ ss (r / 2):=⟨_,rfl⟩
 have HTS:=znq (show xQ ss (r / 2)=ts∧True from ⟨hts.symm,trivial⟩)
 have HTL:=znq (show ts.length=16∧True from ⟨by rw [hts,zio];exact HSL.znr.1,trivial⟩)
 have HTV:=znq (show (ts.map W).length=16 by rw [yf];exact HTL.znr.1)
 rw [← hts]
 clear hbel hts
 have h69:b6 < w9.heap.size:=HS.znr.ne _ (xU (i:=0) rfl)
 go_wp2_with (refine ze 242 ((wh 16 (0:UInt32)).map W) _ rfl rfl qt rfl ?_)
 intro w10 hb hbel;have HS:=znq (HS.znr.push hb hbel);have zfW:=hb.lt;clear hb hbel
 generalize w9.heap.size=b9 at *
 go_wp2_with (refine (HS.znr.get 0 rfl).mM rfl rfl rfl (cs:=ts.map W) rfl yW rfl HTV.znr (yT _) ?_)
 intro w11 zbO tV
 have HS:=znq (HS.znr.change 0 zbO tV (by omega) (by simp;omega))
 clear zbO tV
 go_wp2
 go_loopw [25] (fun c wr=>∃ (i:Nat),i≤16∧c=.int .i64 i∧Hid (St w bb wr [(b9,(Zs ts ss i).map W,242),(b6,ss.map W,242),(b3,(zf 64).map B,215),(b2,(zf 64).map B,215),(b1,inn.map B,117),(bb,key.map B,186)])) (fun c _=>16 - (intOf c).toNat)
 case atStart=>exact ⟨0,by omega,rfl,znq (by rw [zm2 ss HTL.znr.1];exact HS.znr)⟩
 case round =>
  clear HS
  obtain ⟨i,hi,rfl,HS⟩:=hrel
  by_cases hlt:i < 16
  ·have HGL:=znq (jk ts ss i)
   have HGS:=znq (show (Zs ts ss i).set i (jI (yR ts i) (yR ss i))=Zs ts ss (i+1)∧True from ⟨zfc ts ss hlt,trivial⟩)
   have hg:(Zs ts ss i)[i]? = some (yR ts i):=by rw [YY ts ss i i hlt,if_neg (by omega)]
   have hc0:=fun (x:zG wr.drew)=>((HS.znr.get 0 rfl).drew.below x.later (HS.znr.get 0 rfl).drew.lt).cell i _ (kz hg)
   have hc1:=fun (x:zG wr.drew)=>((HS.znr.get 1 rfl).drew.below x.later (HS.znr.get 1 rfl).drew.lt).cell i _ (kz (qO (l:=ss) (i:=i) (by rw [HSL.znr.1];exact hlt)))
   clear hg
   go_wp2_with fail
   refine zn [0,1,2,3,4,5,6,7,8] (by kernel_rfl) (by kernel_rfl) ?_
   rintro w12 rfl
   refine mqR ?_
   clear hc0 hc1
   have HS:=znq HS.znr.drew
   refine zp rfl rfl (by rfl) (fun K hK=>?_)
   refine (HS.znr.get 0 rfl).nO (v:=W (jI (yR ts i) (yR ss i))) rfl rfl rfl yt rfl rfl (by rw [yf,HGL.znr];exact hlt) (fun w13 zbA zaS=>hK _ _ ?_)
   clear hK K
   rw [xI,HGS.znr.1] at zbA
   have HS:=znq (HS.znr.change 0 zbA zaS (by omega) (by simp;omega))
   clear zbA zaS
   go_simp
   refine zo ?_
   go_wp2
   go_roundw
   case rel=>exact ⟨i+1,by omega,by go_num,HS⟩
   case measure=>simp [intOf];omega
  ·obtain rfl:i=16:=by omega
   rw [zkx] at HS
   have HAL:=znq (wV ts ss)
   have zcD:=znq (show splice (zf 64) 0 (xi (sI ts ss))=wW key inn r∧True from ⟨by rw [zdf _ _ (by rw [k4,wV,zd])];unfold wW;rw [HSS.znr.1,HTS.znr.1],trivial⟩)
   have HOV:=znq (show ((wW key inn r).map B).length=64 by rw [yf,wX])
   generalize sI ts ss=us at *
   go_wp2_with fail
   refine kW (fun u v=>Below u.heap.size u v) [2] [(0,2),(1,2),(2,0)] (fun a=>Below.refl _ a) (fun _ _ _ h1 h2=>h1.trans (h2.mono h1.size)) (by kernel_rfl) (by kernel_rfl) ?_
   rintro w14 rfl
   have HS:=znq HS.znr.drew
   refine mqN ?_
   refine yS rfl (by rfl) (fun K hK=>?_)
   go_simp
   refine (zas b3 0 64 64 _ 16 16 (zf 64) us 215 _ (HS.znr.get 2 rfl) (HS.znr.get 0 rfl).lies HAL.znr (by omega) (by rw [zd];omega) (by omega) (by omega)).mono ?_
   rintro e w15 ⟨⟨v15,rfl⟩,zbK,zbL⟩
   rw [zcD.znr.1] at zbK
   have HS:=znq (St.tq HS.znr 2 zbK zbL (by omega) (by simp;omega))
   clear zbK zbL
   go_simp
   refine hK _ _ (fun h=>by cases h) ?_
   clear hK K
   refine jA ?_
   go_wp2_with (first | (refine (HS.znr.get 2 rfl).mP rfl rfl rfl wI HOV.znr ?_) | (refine (HS.znr.get 3 rfl).mM rfl rfl rfl (cs:=(wW key inn r).map B) rfl wI rfl HOV.znr (zg _) ?_))
   intro w16 zaT zdJ
   have HE:=znq (zk HS.znr.bel zdJ (by omega))
   clear zdJ
   go_wp2
   refine zaT.zaN (v:=.int .i64 0) rfl rfl rfl rfl wI HOV.znr ⟨rfl,?_⟩
   rw [HBB.znr]
   exact HE.znr
theorem WE (key inn:List UInt8) (r:Nat) (w:World) (hk:key.length=32) (hi:inn.length=16) (hr:YX r) :
  Calls Tryz.prog 147 #[.agg (key.map B).toArray,.agg (inn.map B).toArray,.int .i64 r] w fun e w'=>e=.returned (.tuple #[.agg ((jw key inn r).map B).toArray,.int .i64 0])∧Below w.heap.size w w':=by
 have HK:=znq (show (key.map B).length=32 by rw [yf];exact hk)
 have HI:=znq (show (inn.map B).length=16 by rw [yf];exact hi)
 have HKL:=znq (show key.length=32∧True from ⟨hk,trivial⟩)
 have HIL:=znq (show inn.length=16∧True from ⟨hi,trivial⟩)
 have HRD:=znq hr
 have HS:=znq (St.start w)
 clear hk hi hr
 go_enter Tryz.func147,Tryz.ntmps147
 go_wp2_with (refine zh 186 _ (key.map B) _ rfl rfl rfl rfl ?_)
 intro w1 hb hbel;have HS:=znq (HS.znr.push hb hbel);have hlt1:=hb.lt;clear hb hbel
 go_wp2_with (refine zh 117 _ (inn.map B) _ rfl rfl rfl rfl ?_)
 intro w2 hb hbel;have HS:=znq (HS.znr.push hb hbel);have hlt2:=hb.lt;clear hb hbel
 go_wp2_with (refine ze 186 ((zf 32).map B) _ rfl rfl qA rfl ?_)
 intro w3 hb hbel;have HS:=znq (HS.znr.push hb hbel);have hlt3:=hb.lt;clear hb hbel
 go_wp2_with (refine ze 186 ((zf 32).map B) _ rfl rfl qA rfl ?_)
 intro w4 hb hbel;have HS:=znq (HS.znr.push hb hbel);have zaE:=hb.lt;clear hb hbel
 generalize hbb:w.heap.size=bb at *
 generalize w1.heap.size=b1 at *
 generalize w2.heap.size=b2 at *
 generalize w3.heap.size=b3 at *
 have HBB:=znq hbb
 clear hbb
 go_wp2_with fail
 refine (zc6 r _ HRD.znr).mono ?_
 rintro e w5 ⟨rfl,rfl⟩
 go_wp2_with (first | (refine (HS.znr.get 3 rfl).mP rfl rfl rfl yP HK.znr ?_) | (refine (HS.znr.get 2 rfl).mP rfl rfl rfl zc HI.znr ?_))
 refine (zde key inn _ HKL.znr.1 HIL.znr.1).mono ?_
 rintro e w6 ⟨rfl,hbel⟩
 have HS:=znq (HS.znr.later hbel)
 clear hbel
 go_wp2_with fail
 refine (zc7 (je key inn) r _ (zjf _ _) HRD.znr).mono ?_
 rintro e w9 ⟨rfl,hbel⟩
 have HS:=znq (HS.znr.later hbel)
 obtain ⟨ts,hts⟩:∃ ts,ts=xQ (je key inn) (r / 2):=⟨_,rfl⟩
 have HTL:=znq (show ts.length=16∧True from ⟨by rw [hts,zio,zjf],trivial⟩)
 have HTV:=znq (show (ts.map W).length=16 by rw [yf];exact HTL.znr.1)
 have zcD:=znq (show splice (splice (zf 32) 0 (xi (ts.take 4))) 16 (xi (ts.drop 12))=jw key inn r∧True from ⟨by
  rw [zfd _ _ _ (zd 32) (by rw [k4,Ku,HTL.znr.1];omega) (by rw [k4,XQ,HTL.znr.1]),hts];rfl,trivial⟩)
 have HOV:=znq (show ((jw key inn r).map B).length=32 by rw [yf,wY])
 have HSPL:=znq (show (splice (zf 32) 0 (xi (ts.take 4))).length=32 from by rw [length_splice _ _ _ (by rw [k4,Ku,zd];omega),zd])
 rw [← hts]
 clear hbel hts
 have h69:b3 < w9.heap.size:=HS.znr.ne _ (xU (i:=0) rfl)
 go_wp2_with (refine ze 242 ((wh 16 (0:UInt32)).map W) _ rfl rfl qt rfl ?_)
 intro w10 hb hbel;have HS:=znq (HS.znr.push hb hbel);have zfW:=hb.lt;clear hb hbel
 generalize w9.heap.size=b9 at *
 go_wp2_with (refine (HS.znr.get 0 rfl).mM rfl rfl rfl (cs:=ts.map W) rfl yW rfl HTV.znr (yT _) ?_)
 intro w11 zbO tV
 have HS:=znq (HS.znr.change 0 zbO tV (by omega) (by simp;omega))
 clear zbO tV
 have hs1:=fun (w':World)=>qN (P:=Tryz.prog) w' 242 149 16 Tryz.underlying242 yt b9 0 4 4 rfl (by omega) (by omega)
 have hs2:=fun (w':World)=>yY (P:=Tryz.prog) w' 242 149 16 Tryz.underlying242 yt b9 0 12 12 rfl (by omega)
 have hs3:=fun (w':World)=>yY (P:=Tryz.prog) w' 186 5 32 Tryz.underlying186 zl b3 0 16 16 rfl (by omega)
 have HS2:=znq hs2
 have HS3:=znq hs3
 clear hs2 hs3
 go_wp2_with fail
 refine kW (fun u v=>Below u.heap.size u v) [2] [(0,2),(1,2),(2,0)] (fun a=>Below.refl _ a) (fun _ _ _ h1 h2=>h1.trans (h2.mono h1.size)) (by kernel_rfl) (by kernel_rfl) ?_
 rintro w14 rfl
 have HS:=znq HS.znr.drew
 refine mqN ?_
 clear hs1
 refine yS rfl (by rfl) (fun K hK=>?_)
 go_simp
 refine (zas b3 0 32 32 (some ⟨b9,0,none⟩) 4 16 (zf 32) (ts.take 4) 186 _ (HS.znr.get 1 rfl) (by rw [bN];exact (HS.znr.get 0 rfl).lies.take 4) (by rw [Ku,HTL.znr.1];rfl) (by omega) (by rw [zd];omega) (by omega) (by omega)).mono ?_
 rintro e w15 ⟨⟨v15,rfl⟩,zbK,zbL⟩
 have HS:=znq (St.tq HS.znr 1 zbK zbL (by omega) (by simp;omega))
 clear zbK zbL
 go_simp
 refine hK _ _ (fun h=>by cases h) ?_
 clear hK K
 refine jA ?_
 have hs2:=HS2.znr
 have hs3:=HS3.znr
 go_wp2_with fail
 refine kW (fun u v=>Below u.heap.size u v) [2] [(0,2),(1,2),(2,0)] (fun a=>Below.refl _ a) (fun _ _ _ h1 h2=>h1.trans (h2.mono h1.size)) (by kernel_rfl) (by kernel_rfl) ?_
 rintro w16 rfl
 have HS:=znq HS.znr.drew
 refine mqN ?_
 clear hs2 hs3
 refine yS rfl (by rfl) (fun K hK=>?_)
 go_simp
 refine (zas b3 16 16 16 (some ⟨b9,12,none⟩) 4 4 (splice (zf 32) 0 (xi (ts.take 4))) (ts.drop 12) 186 _ (HS.znr.get 1 rfl) (by rw [dz];exact Blk.su (HS.znr.get 0 rfl) 12 (by rw [Y2 (xc _)])) (by rw [XQ,HTL.znr.1]) (by omega) (by rw [HSPL.znr];omega) (by omega) (by omega)).mono ?_
 rintro e w17 ⟨⟨v17,rfl⟩,zcZ,zdP⟩
 rw [zcD.znr.1] at zcZ
 have HS:=znq (St.tq HS.znr 1 zcZ zdP (by omega) (by simp;omega))
 clear zcZ zdP
 go_simp
 refine hK _ _ (fun h=>by cases h) ?_
 clear hK K
 refine jA ?_
 go_wp2_with (first | (refine (HS.znr.get 1 rfl).mP rfl rfl rfl yP HOV.znr ?_) | (refine (HS.znr.get 2 rfl).mM rfl rfl rfl (cs:=(jw key inn r).map B) rfl yP rfl HOV.znr (zg _) ?_))
 intro w18 ziJ zfX
 have HE:=znq (zk HS.znr.bel zfX (by omega))
 clear zfX
 go_wp2
 refine ziJ.zaN (v:=.int .i64 0) rfl rfl rfl rfl yP HOV.znr ⟨rfl,?_⟩
 rw [HBB.znr]
 exact HE.znr
end Go.Proofs.YtjaioajjfiaheaaGreatDoor
namespace Go
open RowKit Cells
section
variable {P:Program} {ops:Array Oper} {Q:Exit→Act→World→Prop} {md:Region.Mode} {brk:List Nat} {C:Act→World→Prop}
instance (w:World):Nonempty (xR zW w):=⟨⟨w,zW.refl w⟩⟩
theorem Kw {i:Nat} {r:List Nat} {o:Oper} {a:Act} {w:World} {ty:TypeId} {x:Operand} {b off n:Nat} {vs:List Value} (h:w.rangeAt b off vs) (hb:b < w.heap.size) (hr:Row P ty n) (hn:vs.length=n)
  (ho:ops[i]? = some o) (hg:o.guard=none) (hop:o.op=.load ty x) (hx:a.eval x=.pointer (some ⟨b,off,none⟩))
  (k:∀ K:Act→Prop,(∀ a',qM zW P ops C r a' w→K a')→K (a.put o.dst (.agg vs.toArray))):qM zW P ops C (i::r) a w:=by
 have hw:Region.wanted o (yielded ops a.tmps)=true:=by simp [Region.wanted,hg]
 simp only [qM,ho,hw,if_true]
 exact ⟨_,fun w' hw'=>wt hop hx hr hn (ke h hw' hb),k _ fun _ h=>h⟩
theorem Qv {listed:Array Bool} {a:Act} {w:World} (order:List (Nat×Nat))
  (hB:(Region.noSelect ops && Region.checkN brk md ops order listed)=true) (h:yJ zW brk P ops (NoPanic Q) order a w):qj zW brk P md ops (NoPanic Q) order.length listed a w:=by
 simp only [Bool.and_eq_true] at hB
 exact xh zW.refl (fun _ _ _ h1 h2=>h1.trans h2) hB.1 (fun c a w hq=>hq) order listed a w hB.2 h
end
end Go
namespace Go.Cha
open Ops Oct Trn
theorem zdg (a b:List UInt8) (h:b.length≤a.length):splice a 0 b=b++a.drop b.length:=by
 unfold splice
 rw [cO,uo,bH]
theorem zfe (a b:List UInt8) (ha:a.length=16) (hb:b.length=8):splice a 8 b=a.take 8++b:=by
 unfold splice
 rw [Yx (by omega),bC]
theorem zau {key ng:List UInt8} {r many:Nat} {b:List UInt8} (h:b.length≠0):xa key ng r many b=nX b (kr key ng r many)++xa key ng r (many+1) (b.drop 64):=by
 conv=>lhs;unfold xa
 rw [dif_neg h]
end Go.Cha
namespace Go.Proofs.YtjaioajjfiaheaaGreatDoor
open RowKit Mem Ops Cells Oct Trn Cha
attribute [local irreducible] zE zN zO zM yJ qM qj
theorem VO (w:World) (a:Option Addr) (n c:Nat) (h:16≤n):(Instr.arrayAt 117 (.slice a n c)).run Tryz.prog w=.ok (.pointer a) w:=by
 simp [Instr.arrayAt,run_underlying Tryz.underlying117,show ¬ n < 16 by omega]
theorem zdh:Row Tryz.prog 192 24:=⟨by kernel_rfl,by kernel_rfl⟩
abbrev Vf (r:Nat) (sl:Value) (bo bi:Nat) (v:Value) (u:UInt64) (us:Nat→Value):Act:={ tmps:=#[us 0,us 1,.int .i64 r,sl,us 4,us 5,us 6,us 7,us 8,us 9,.pointer (some ⟨bo,0,none⟩),us 11,.pointer (some ⟨bi,0,none⟩),v,L u,us 15,us 16,us 17,us 18,us 19,us 20,us 21,us 22,us 23,us 24,us 25,us 26,us 27,us 28,us 29,us 30,us 31,us 32,us 33,us 34,us 35,us 36,us 37,us 38,us 39,us 40,us 41,us 42,us 43,us 44,us 45,us 46,us 47,us 48,us 49,us 50,us 51,us 52,us 53,us 54,us 55,us 56,us 57,us 58,us 59,us 60,us 61,us 62,us 63,us 64],defers:=[] }
def Qw (key ng b:List UInt8) (r bb:Nat) (w:World) (x:Act) (wr:World):Prop :=
 ∃ (bz bo bi:Nat) (us:Nat→Value) (ao:Option Addr) (n c:Nat) (rest:List UInt8) (v:Value) (k:Nat) (outs inn:List UInt8) (many:Nat) (u:UInt64),x=Vf r (.slice ao n c) bo bi v u us∧bb≤bo∧bb≤bi∧bo < bz∧bi < bz∧bo≠bi∧n≤c∧k+n=b.length∧Hid (rest.length=n)∧Hid (zr w ao (rest.map B))∧Hid (u=wF many∧True) ∧
  Hid (inn.length=16∧inn.drop 8=ng.drop 16)∧Hid (outs.length=k∧outs++xa key ng r many rest=jT key ng r b)∧Hid (wr.ownsRow bz 5 1 v k (outs.map B)) ∧
  Hid (St w bb wr [(bi,inn.map B,117),(bo,(jw key (ng.take 16) r).map B,186)])∧bz≤wr.heap.size
theorem Qw.intro {key ng b:List UInt8} {r bb:Nat} {w:World} {x:Act} {wr:World} (bz bo bi:Nat) (ao:Option Addr) (n c:Nat) (rest:List UInt8) (v:Value) (k:Nat) (outs inn:List UInt8) (many:Nat) (u:UInt64)
  (hx:x=Vf r (.slice ao n c) bo bi v u (fun i=>x.tmps.getD i undef)) (g1:bb≤bo) (g2:bb≤bi) (g3:bo < bz) (g4:bi < bz) (g5:bo≠bi) (h1:n≤c) (h2:k+n=b.length) (h3:rest.length=n) (h4:zr w ao (rest.map B)) (h5:u=wF many) (h6:inn.length=16∧inn.drop 8=ng.drop 16) (h7:outs.length=k∧outs++xa key ng r many rest=jT key ng r b)
  (h8:wr.ownsRow bz 5 1 v k (outs.map B)) (h9:St w bb wr [(bi,inn.map B,117),(bo,(jw key (ng.take 16) r).map B,186)]) (h10:bz≤wr.heap.size):Qw key ng b r bb w x wr :=
 ⟨bz,bo,bi,_,ao,n,c,rest,v,k,outs,inn,many,u,hx,g1,g2,g3,g4,g5,h1,h2,h3,h4,⟨h5,trivial⟩,h6,h7,h8,h9,h10⟩
theorem zdi (key ng:List UInt8) (r:Nat) (ao:Option Addr) (n cap:Nat) (b:List UInt8) (w:World) (hk:key.length=32) (hnn:ng.length=24) (hr:YX r) (hb:b.length=n) (hc:n≤cap) (hn:n≤1000000) (hl:zr w ao (b.map B)) :
  Calls Tryz.prog 128 #[.agg (key.map B).toArray,.agg (ng.map B).toArray,.int .i64 r,.slice ao n cap] w fun e w'=>∃ v,e=.returned (.tuple #[v,.int .i64 0])∧w'.ownsRow w.heap.size 5 1 v n ((jT key ng r b).map B)∧Below w.heap.size w w':=by
 obtain ⟨i0,hi0,hz0,hz1,hz2⟩:=info_parts yq
 have HI:=znq (And.intro hi0 (And.intro hz0 (And.intro hz1 hz2)))
 have HK:=znq (show key.length=32∧True from ⟨hk,trivial⟩)
 have HKV:=znq (show (key.map B).length=32 by rw [yf];exact hk)
 have HNN:=znq (show ng.length=24∧True from ⟨hnn,trivial⟩)
 obtain ⟨t16,zec⟩:∃ t,t=ng.take 16:=⟨_,rfl⟩
 have HT:=znq (show t16=ng.take 16∧t16.length=16 from ⟨zec,by rw [zec,Ku];omega⟩)
 have HT16:=znq (show (t16.map B).length=16 by rw [yf,HT.znr.2])
 have HD8:=znq (show (ng.drop 16).length=8 by rw [XQ];omega)
 have HTK:=znq (show ((ng.map B).drop 0).take 16=t16.map B by rw [List.drop_zero,zec,bN])
 have HDK:=znq (show ((ng.map B).drop 16).take ((ng.drop 16).map B).length=(ng.drop 16).map B by rw [← dz,List.take_length])
 have HR:=znq hr
 have HB:=znq hb
 have HL:=znq hl
 have HS:=znq (St.start w)
 clear hk hnn hr hb hl hi0 hz0 hz1 hz2 zec
 go_enter Tryz.func128,Tryz.ntmps128
 go_wp2_with (refine zh 186 _ (key.map B) _ rfl rfl rfl rfl ?_)
 intro w1 hb hbel;have HS:=znq (HS.znr.push hb hbel);have hlt1:=hb.lt;clear hb hbel
 go_wp2_with (refine zh 192 _ (ng.map B) _ rfl rfl rfl rfl ?_)
 intro w2 hb hbel;have HS:=znq (HS.znr.push hb hbel);have hlt2:=hb.lt;clear hb hbel
 have g0:w.heap.size < w2.heap.size:=HS.znr.ne _ (xU (i:=1) rfl)
 have g1:w1.heap.size < w2.heap.size:=HS.znr.ne _ (xU (i:=0) rfl)
 generalize hbb:w.heap.size=bb at *
 generalize w1.heap.size=b1 at *
 have HBB:=znq hbb
 clear hbb
 go_wp2_with fail
 refine yd 0 (Qw key ng b r bb w) (fun x _=>X9 (x.tmps.getD 3 undef)) rfl ?_ ?_
 ·simp only [q9]
  have hs1:=fun (w':World)=>qN (P:=Tryz.prog) w' 192 5 24 Tryz.underlying192 zl b1 0 16 16 rfl (by omega) (by omega)
  have hs2:=fun (w':World)=>VO w' (some ⟨b1,0,none⟩) 16 24 (by omega)
  go_wp2_with fail
  refine Kk zW [10] [0,1,4,2,3] 7 zW.refl (fun _ _ _ h1 h2=>h1.trans h2) (by kernel_rfl) (by kernel_rfl) ?_
  rintro w3 rfl
  have HS:=znq HS.znr.drew
  refine Kw (HS.znr.get 1 rfl).range (HS.znr.get 1 rfl).lt yP HKV.znr rfl rfl rfl rfl (fun K hK=>?_)
  go_simp;refine hK _ ?_;clear hK K
  repeat (refine qH rfl rfl (fun K hK=>?_);go_big_quiet_step (fail);refine wpQuiet_nil (hK _ ?_);clear hK K)
  clear hs1 hs2
  refine Kw (Blk.nA (HS.znr.get 0 rfl) 0 16 _ (by exact HTK.znr)) (HS.znr.get 0 rfl).lt zc HT16.znr rfl rfl rfl rfl (fun K hK=>?_)
  go_simp;refine hK _ ?_;clear hK K
  refine vG ?_
  have HSH:=znq (show ((jw key t16 r).map B).length=32 by rw [yf,wY])
  refine zex (i:=5) (j:=9) (by kernel_rfl) rfl rfl rfl rfl (fun K hK=>?A) (fun K hK=>?B)
  case' A =>
   go_simp
   refine (WE key t16 r _ HK.znr.1 HT.znr.2 HR.znr).mono ?_
   rintro e w4 ⟨rfl,hbel⟩
   have HS:=znq (HS.znr.later hbel)
   have hz4:=hbel.size
   go_simp
   refine hK _ _ (fun _=>hbel) ?_
   clear hK K hbel
   refine Qv [(6,2),(7,2),(8,2),(9,0),(10,0),(11,2)] (by kernel_rfl) ?_
   refine mqN ?_
   refine yS rfl (by rfl) (fun K hK=>?_)
   refine Yv 186 ((zf 32).map B) _ rfl qA rfl (fun wb hbn hlb=>hK _ _ (fun _=>hlb) ?_)
   clear hK K
   have hbo:w2.heap.size≤w4.heap.size:=hz4
   have HS:=znq (HS.znr.push hbn hlb)
   generalize w4.heap.size=bo at *
  case' B =>
   refine Yv 186 ((zf 32).map B) _ rfl qA rfl (fun w4 hbn hlb=>hK _ _ (fun _=>hlb) ?_)
   clear hK K
   have hbo:w2.heap.size≤w2.drew.heap.size:=xc _
   have HS:=znq (HS.znr.push hbn hlb)
   generalize w2.drew.heap.size=bo at *
   refine Qv [(5,0),(6,2),(7,2),(8,2),(10,0),(11,2)] (by kernel_rfl) ?_
   refine yS rfl (by rfl) (fun K hK=>?_)
   go_simp
   refine (WE key t16 r _ HK.znr.1 HT.znr.2 HR.znr).mono ?_
   rintro e wb ⟨rfl,hbel⟩
   have HS:=znq (HS.znr.later hbel)
   go_simp
   refine hK _ _ (fun _=>hbel) ?_
   clear hK K hbel
   refine mqN ?_
  all_goals
   generalize w2.heap.size=b2 at *
   refine yS rfl (by rfl) (fun K hK=>?_)
   refine (HS.znr.get 0 rfl).mZ rfl rfl rfl yP (by rw [yf,zd]) HSH.znr (zg _) (fun w5 hb ho=>hK _ _ (fun h=>by cases h) ?_)
   clear hK K
   have HS:=znq (HS.znr.change 0 hb ho (by omega) (by simp;omega))
   clear hb ho
   go_simp
   refine mqN ?_
   refine jA ?_
   rw [HT.znr.1] at HS
   have g2:bo < w5.heap.size:=HS.znr.ne _ (xU (i:=0) rfl)
   have g3:b1 < w5.heap.size:=HS.znr.ne _ (xU (i:=1) rfl)
   have g4:bb < w5.heap.size:=HS.znr.ne _ (xU (i:=2) rfl)
   go_wp2_with (refine ze 117 ((zf 16).map B) _ rfl rfl zj rfl ?_)
   intro w6 hb hbel;have HS:=znq (HS.znr.push hb hbel);have zfP:=hb.lt;clear hb hbel
   generalize w5.heap.size=b5 at *
   have hs1:=fun (w':World)=>yY (P:=Tryz.prog) w' 117 5 16 Tryz.underlying117 zl b5 0 8 8 rfl (by omega)
   have hs2:=fun (w':World)=>yY (P:=Tryz.prog) w' 192 5 24 Tryz.underlying192 zl b1 0 16 16 rfl (by omega)
   go_wp2_with fail
   refine zn [0,1,2] (by kernel_rfl) (by kernel_rfl) ?_
   rintro w7 rfl
   refine mqR ?_
   clear hs1 hs2
   have HS:=znq HS.znr.drew
   refine zp rfl rfl (by rfl) (fun K hK=>?_)
   refine (HS.znr.get 0 rfl).rC 8 ((ng.drop 16).map B) rfl rfl rfl Tryz.underlying22 zl (fun _=>rfl) ((HS.znr.get 2 rfl).su 16 HDK.znr) (by rw [yf,HD8.znr];rfl) (by rw [yf,yf,HD8.znr,zd];omega) (zg _) (fun w8 hb ho=>hK _ _ ?_)
   clear hK K
   rw [xV,zfe _ _ (zd 16) HD8.znr,show (zf 16).take 8=zf 8 from rfl] at hb
   have HS:=znq (HS.znr.change 0 hb ho (by omega) (by simp;omega))
   clear hb ho
   go_simp
   refine zo ?_
   have hlt8:b5 < w8.heap.size:=HS.znr.ne _ (xU (i:=0) rfl)
   go_wp2_with (at_make;refine wpList_make_own _ rfl _ _ 22 rfl w8.heap.size 5 i0 (.int .u8 0) 1 Tryz.underlying22 HI.znr.1 HI.znr.2.1 HI.znr.2.2.1 _ _ _ n rfl rfl ?m1 ?m2 ?m3 (xc _) ?_)
   case m1=>simp
   case m2=>rw [HI.znr.2.2.2];omega
   case m3=>unfold maxLen;omega
   intro w9 hown hgrow
   have HOWN:=znq hown
   have nM:Below w8.heap.size w8 w9:=(Below.refl w8.heap.size w8).grown hgrow (xc _) (fun k h=>by cases h)
   have HS:=znq (HS.znr.later nM)
   have hz9:=nM.size
   clear hown hgrow nM
   go_wp2
   refine Qw.intro w8.heap.size bo b5 ao n cap b _ 0 [] (zf 8++ng.drop 16) 0 _ rfl (by omega) (by omega) (by omega) hlt8 (by omega) hc (by simp;exact HB.znr.symm) HB.znr HL.znr rfl ⟨by rw [q8,HD8.znr,zd],by rw [bP (by rw [zd];omega),Yx (by rw [zd];omega),uo]⟩ ⟨rfl,by rw [uo];rfl⟩ HOWN.znr (HS.znr.sub ?_) hz9
   intro e he
   simp at he
   rcases he with rfl | rfl <;> simp
 ·clear HS
  rintro x wr ⟨bz,bo,bi,us,ao,n',c,rest,v,k,outs,inn,many,u,rfl,g1,g2,g3,g4,g5,hnc,hkn,HRL,HLR,HU,HIN,zcD,HO,HS,hbz⟩
  have HSL:=znq (show (jw key (ng.take 16) r).length=32∧True from ⟨wY _ _ _,trivial⟩)
  by_cases h0:n'=0
  ·subst h0
   have HE:=znq (show outs=jT key ng r b∧k=n from ⟨by have h1:=zcD.znr.2;rw [List.eq_nil_of_length_eq_zero HRL.znr,jU,bC] at h1;exact h1,by rw [← HB.znr];omega⟩)
   rw [HE.znr.1,HE.znr.2] at HO
   go_wp2
   go_ret2
   refine ⟨_,rfl,yi HO.znr (by have:=HS.znr.nW;have:=HBB.znr;omega),?_⟩
   rw [HBB.znr]
   exact HS.znr.bel
  ·have d0:((n':Int)==0)=false:=by simp;omega
   obtain ⟨q,hq⟩:∃ q,q=min n' 64:=⟨_,rfl⟩
   have hq1:1≤q:=by omega
   have hq2:q≤n':=by omega
   have hq3:q≤64:=by omega
   have HQ:=znq (show q=min n' 64∧True from ⟨hq,trivial⟩)
   have hkb:k+n'≤1000000:=by have:=HB.znr;omega
   have HKN:=znq (show k+n'=b.length∧True from ⟨hkn,trivial⟩)
   clear hq hkn
   generalize hown:jw key (ng.take 16) r=own at *
   have HOWN:=znq (show jw key (ng.take 16) r=own∧True from ⟨hown,trivial⟩)
   clear hown
   have HOV:=znq (show (own.map B).length=32 by rw [yf];exact HSL.znr.1)
   go_wp2_with fail
   refine (kH u _).mono ?_
   rintro e w1 ⟨rfl,hbel⟩
   have HS:=znq (HS.znr.later hbel)
   have HO:=znq (zm HO.znr hbel)
   have hz1:=hbel.size
   clear hbel
   have f1:bi < w1.heap.size:=HS.znr.ne _ (xU (i:=0) rfl)
   have f2:bo < w1.heap.size:=HS.znr.ne _ (xU (i:=1) rfl)
   have HPL:=znq (show ((zz u).map B).length=8 by rw [yf,zK])
   go_wp2_with (refine ze 97 ((zf 8).map B) _ rfl rfl vJ rfl ?_)
   intro w2 hb hbel
   have HO:=znq (zm HO.znr hbel)
   have HS:=znq (HS.znr.push hb hbel);have hlt2:=hb.lt;clear hb hbel
   generalize hb8:w1.heap.size=b8 at *
   clear hb8
   have h8z:bz≤b8:=Nat.le_trans hbz hz1
   go_wp2_with (refine (HS.znr.get 0 rfl).mM rfl rfl rfl (cs:=(zz u).map B) rfl kM (by rw [yf,zd]) HPL.znr (zg _) ?_)
   intro w3 hb ho
   have HO:=znq (zu HO.znr (HS.znr.get 0 rfl) (by decide) ho)
   have HS:=znq (HS.znr.change 0 hb ho (by omega) (by simp;omega))
   have hz3:w3.heap.size=w2.heap.size:=ho.size
   clear hb ho
   have hs1:=fun (w':World)=>qN (P:=Tryz.prog) w' 117 5 16 Tryz.underlying117 zl bi 0 8 8 rfl (by omega) (by omega)
   go_wp2_with fail
   refine zn [0,1,2] (by kernel_rfl) (by kernel_rfl) ?_
   rintro w4 rfl
   refine mqR ?_
   clear hs1
   have HO:=znq (zm HO.znr (Below.refl _ _).drew)
   have HS:=znq HS.znr.drew
   have hz3:w3.drew.heap.size=w2.heap.size:=hz3
   refine zp rfl rfl (by rfl) (fun K hK=>?_)
   refine (HS.znr.get 1 rfl).rC 0 ((zz u).map B) rfl rfl rfl Tryz.underlying22 zl (fun _=>rfl) (HS.znr.get 0 rfl).lies (by rw [HPL.znr];rfl) (by rw [HPL.znr,yf,HIN.znr.1];omega) (zg _) (fun w5 hb ho=>hK _ _ ?_)
   clear hK K
   rw [xV,zdg _ _ (by rw [zK,HIN.znr.1];omega),zK,HIN.znr.2] at hb
   have HO:=znq (zu HO.znr (HS.znr.get 1 rfl) (by decide) ho)
   have HS:=znq (HS.znr.change 1 hb ho (by omega) (by simp;omega))
   have hz5:w5.heap.size=w2.heap.size:=ho.size.trans hz3
   clear hb ho
   go_simp
   refine zo ?_
   obtain ⟨zcL,zcE⟩:∃ i,i=zz u++ng.drop 16:=⟨_,rfl⟩
   have HI2:=znq (show zz u++ng.drop 16=zcL∧zcL.length=16 from ⟨zcE.symm,by rw [zcE,q8,zK,HD8.znr]⟩)
   rw [← zcE] at HS
   have HIV:=znq (show (zcL.map B).length=16 by rw [yf];exact HI2.znr.2)
   have HID:=znq (show zcL.drop 8=ng.drop 16 from by rw [zcE,bP (by rw [zK];omega),Yx (by rw [zK];omega),uo])
   clear zcE
   go_wp2_with (first | (refine (HS.znr.get 2 rfl).mP rfl rfl rfl yP HOV.znr ?_) | (refine (HS.znr.get 1 rfl).mP rfl rfl rfl zc HIV.znr ?_))
   refine (zhw own zcL r _ HSL.znr.1 HI2.znr.2 HR.znr).mono ?_
   rintro e w6 ⟨rfl,hbel⟩
   have HO:=znq (zm HO.znr hbel)
   have HS:=znq (HS.znr.later hbel)
   have hz6:=hbel.size
   clear hbel
   obtain ⟨blk,hblk⟩:∃ x,x=wW own zcL r:=⟨_,rfl⟩
   have HBK:=znq (show wW own zcL r=blk∧blk.length=64 from ⟨hblk.symm,by rw [hblk];exact wX _ _ _⟩)
   have HBV:=znq (show (blk.map B).length=64 by rw [yf];exact HBK.znr.2)
   have HST:=znq (show blk=kr key ng r many from by
    unfold kr
    rw [hblk,HOWN.znr.1,← HU.znr.1,HI2.znr.1])
   rw [← hblk]
   clear hblk
   have f3:b8 < w6.heap.size:=HS.znr.ne _ (xU (i:=0) rfl)
   have f4:bi < w6.heap.size:=HS.znr.ne _ (xU (i:=1) rfl)
   have f5:bo < w6.heap.size:=HS.znr.ne _ (xU (i:=2) rfl)
   go_wp2_with (refine ze 215 ((zf 64).map B) _ rfl rfl ZU rfl ?_)
   intro w7 hb hbel
   have HO:=znq (zm HO.znr hbel)
   have HS:=znq (HS.znr.push hb hbel);have zcQ:=hb.lt;clear hb hbel
   generalize hb6:w6.heap.size=b6 at *
   clear hb6
   go_wp2_with (refine (HS.znr.get 0 rfl).mM rfl rfl rfl (cs:=blk.map B) rfl wI (by rw [yf,zd]) HBV.znr (zg _) ?_)
   intro w8 hb ho
   have HO:=znq (zu HO.znr (HS.znr.get 0 rfl) (by decide) ho)
   have HS:=znq (HS.znr.change 0 hb ho (by omega) (by simp;omega))
   have hz8:w8.heap.size=w7.heap.size:=ho.size
   clear hb ho
   go_wp2_with fail
   refine (j1 ao (some ⟨b6,0,none⟩) n' 64 c 64 rest blk _ HRL.znr HBK.znr.2 (by omega) (by omega) (HLR.znr.below (by rw [HBB.znr];exact HS.znr.bel)) (HS.znr.get 0 rfl).lies).mono ?_
   rintro e w9 ⟨v9,rfl,hown,hbel⟩
   obtain ⟨a9,c9,rfl,_,_,hl⟩:=zw hown
   have HO:=znq (zm HO.znr hbel)
   have HS:=znq (HS.znr.later hbel)
   have HL9:=znq hl
   have hz9:=hbel.size
   clear hown hl hbel
   simp only [id]
   rw [← HQ.znr.1]
   have HXL:=znq (show (nX rest blk).length=q by rw [Oct.mW,HRL.znr,HBK.znr.2];exact HQ.znr.1.symm)
   go_wp2_with (at_builtin;refine yD rfl (.tmp 56) (.tmp 57) 22 rfl bz 5 i0 (.int .u8 0) 1 Tryz.underlying22 HI.znr.1 HI.znr.2.1 HI.znr.2.2.1 HI.znr.2.2.2 rfl v k (outs.map B) rfl HO.znr a9 q c9 ((nX rest blk).map B) rfl (by rw [yf];exact HXL.znr) HL9.znr (j9 _) (by unfold maxLen;omega) (by omega) (by omega) ?_)
   intro v10 w10 hown hg
   have nE:Below bz w9 w10:=z8 (Below.refl bz w9) HO.znr hg (xc _) (by omega)
   have HS:=znq (show St w bb w10 [(bi,zcL.map B,117),(bo,own.map B,186)] from (HS.znr.sub (L':=[(bi,zcL.map B,117),(bo,own.map B,186)]) (by intro e he;simp at he;rcases he with rfl | rfl <;> simp)).low nE (by omega) (by intro e he;simp at he;rcases he with rfl | rfl <;> simp <;> omega))
   have HO:=znq (show w10.ownsRow bz 5 1 v10 (k+q) ((outs++nX rest blk).map B) from by rw [List.map_append];exact hown)
   have hz10:=nE.size
   clear hown hg nE
   have hsl:=fun (w':World)=>yv (P:=Tryz.prog) w' 22 5 1 Tryz.underlying22 zl ao n' c q q rfl hq2
   have HDR:=znq (show rest.drop 64=rest.drop q∧True from ⟨by
    by_cases h:n'≤64
    ·rw [Yx (by rw [HRL.znr];omega),Yx (by rw [HRL.znr];have:=HQ.znr.1;omega)]
    ·have:=HQ.znr.1;rw [show q=64 by omega],trivial⟩)
   have HOU:=znq (show (outs++nX rest blk).length=k+q∧(outs++nX rest blk)++xa key ng r (many+1) (rest.drop q)=jT key ng r b from ⟨by rw [q8,zcD.znr.1,HXL.znr],by
    rw [← zcD.znr.2,zau (b:=rest) (by rw [HRL.znr];exact h0),← HST.znr,HDR.znr.1,QA]⟩)
   rw [← HOWN.znr.1] at HS
   go_wp2
   refine wp_goto ⟨rfl,Qw.intro bz bo bi (yy ao c q) (n' - q) (c - q) (rest.drop q) v10 (k+q) (outs++nX rest blk) zcL (many+1) _ rfl g1 g2 g3 g4 g5 (by omega) (by have:=HKN.znr.1;omega) (by rw [XQ,HRL.znr]) (zr.rJ HLR.znr (by rw [HRL.znr];exact hnc) q) ?_ ⟨HI2.znr.2,HID.znr⟩ HOU.znr HO.znr HS.znr (by omega),?_⟩
   ·rw [HU.znr.1]
    exact (UInt64.ofNat_add many 1).symm
   ·simp [X9];omega
end Go.Proofs.YtjaioajjfiaheaaGreatDoor
namespace Go.Mem
open RowKit Cells
theorem zr.far {w0 w:World} {ao:Option Addr} {xs:List Value} {sb:Nat} (h:zr w0 ao xs) (hb:Below w0.heap.size w0 w) (hsb:w0.heap.size≤sb):∀ w',zI sb w w'→zr w' ao xs:=by
 intro w' ho j u hu
 obtain ⟨b,off,e,hc⟩:=h j u hu
 have hlt:b < w0.heap.size:=block_lt_of_cell hc
 refine ⟨b,off,e,?_⟩
 have h1:w.heap[b]? = w0.heap[b]?:=hb.block b hlt
 have h2:w'.heap[b]? = w.heap[b]?:=ho.block b (Nat.lt_of_lt_of_le hlt hb.size) (by omega)
 rw [← hc]
 unfold World.cell?
 simp only [h2.trans h1]
theorem zr.zdB {w:World} {b off sb:Nat} {xs vs:List Value} {ty:TypeId} (h:Blk w b vs ty) (hx:(vs.drop off).take xs.length=xs) (hne:b≠sb):∀ w',zI sb w w'→zr w' (some ⟨b,off,none⟩) xs :=
 fun w' ho=>Blk.su (h.pR ho hne) off hx
end Go.Mem
namespace Go.Adi
open Ops Oct pI
theorem zff {α:Type} (a x c b:List α) (k:Nat) (h:k+b.length≤x.length):splice (a++x++c) (a.length+k) b=a++splice x k b++c:=by
 unfold splice
 rw [QA a x c,gz,Y2 (by omega),show a.length+k - a.length=k by omega,uD (by omega),bK,Yx (by omega),uo,
  show a.length+k+b.length - a.length=k+b.length by omega,bP h]
 simp only [QA]
theorem zav {r v k q:Nat} {p bs rest:List UInt8} (hp:rest.take k=p) (hk:p.length=k) (hrl:rest.length=16) (hq:k+q=16) (hb:q≤bs.length) :
  yO r v (p++bs)=yO r (vX r v (ZR (splice rest k (bs.take q)))) (bs.drop q):=by
 have h1:(p++bs).take 16=splice rest k (bs.take q):=by
  unfold splice
  rw [hp,gz,Y2 (by omega),show 16 - p.length=q by omega,Ku,Yx (by omega),bC]
 have h2:(p++bs).drop 16=bs.drop q:=by
  rw [bK,Yx (by omega),uo,show 16 - p.length=q by omega]
 rw [Ww (by rw [q8];omega),h1,h2]
end Go.Adi
namespace Go.Proofs.YtjaioajjfiaheaaGreatDoor
open RowKit Mem Ops Cells Oct Trn Blake pI Adi
attribute [local irreducible] zE zN zO zM yJ
theorem Qx:(Tryz.prog.info? 3).map (·.size)=some 1:=by kernel_rfl
theorem WG {r v:Nat} {rest:List UInt8} {k:Nat} (h:rest.length=16):((qe r v rest k).drop 10).take 16=rest.map B:=by
 show (rest.map B++[_]).take 16=_
 rw [uD (by rw [yf,h];omega),Y2 (by rw [yf,h];omega)]
theorem jB {r v:Nat} {rest:List UInt8} {k:Nat} (h:rest.length=16):(qe r v rest k)[26]? = some (.int .i64 k):=by
 unfold qe
 rw [List.getElem?_append_right (by simp [numOf,h])]
 simp [numOf,h]
theorem zdj {r v:Nat} {rest:List UInt8} {k m:Nat} (h:rest.length=16):(qe r v rest k).set 26 (.int .i64 m)=qe r v rest m:=by
 unfold qe
 rw [dD _ _ (by simp [numOf,h])]
 simp [numOf,h]
theorem zhx {r v:Nat} {rest cs:List UInt8} {k j:Nat} (h:j+cs.length≤rest.length):splice (qe r v rest k) (10+j) (cs.map B)=qe r v (splice rest j cs) k:=by
 unfold qe
 have e:=zff ((numOf r).map W++(numOf v).map W) (rest.map B) [.int .i64 k] (cs.map B) j (by simpa using h)
 rw [xV] at e
 exact e
abbrev zaw (sb:Nat) (sl:Value) (us:Nat→Value):Act:={ tmps:=#[.pointer (some ⟨sb,0,none⟩),sl,us 2,us 3,us 4,us 5,us 6,us 7,us 8,us 9,us 10,us 11,us 12,us 13,us 14,us 15,us 16,us 17,us 18,us 19,us 20,us 21,us 22,us 23,us 24,us 25,us 26,us 27,us 28,us 29,us 30,us 31,us 32,us 33,us 34,us 35,us 36,us 37,us 38,us 39,us 40,us 41,us 42],defers:=[] }
def zgU (sb r:Nat) (fin:Nat×List UInt8) (w:World) (x:Act) (wr:World):Prop :=
 ∃ (us:Nat→Value) (ao:Option Addr) (n c:Nat) (bs:List UInt8) (v:Nat) (rest p:List UInt8) (k:Nat),x=zaw sb (.slice ao n c) us∧n≤c∧n≤1000000∧k < 16∧Hid (bs.length=n)∧Hid (∀ w',zI sb w w'→zr w' ao (bs.map B)) ∧
  Hid (rest.length=16∧rest.take k=p∧p.length=k)∧Hid (v < PP)∧Hid (yO r v (p++bs)=fin)∧Hid (Blk wr sb (qe r v rest k) 304)∧Hid (zI sb w wr)
theorem zgU.intro {sb r:Nat} {fin:Nat×List UInt8} {w:World} {x:Act} {wr:World} (ao:Option Addr) (n c:Nat) (bs:List UInt8) (v:Nat) (rest p:List UInt8) (k:Nat) (hx:x=zaw sb (.slice ao n c) (fun i=>x.tmps.getD i undef)) (h1:n≤c) (h2:n≤1000000) (h3:k < 16) (h4:bs.length=n)
  (h5:∀ w',zI sb w w'→zr w' ao (bs.map B)) (h6:rest.length=16∧rest.take k=p∧p.length=k) (h7:v < PP) (h8:yO r v (p++bs)=fin) (h9:Blk wr sb (qe r v rest k) 304) (h10:zI sb w wr):zgU sb r fin w x wr :=
 ⟨_,ao,n,c,bs,v,rest,p,k,hx,h1,h2,h3,h4,h5,h6,h7,h8,h9,h10⟩
theorem QY (sb r v:Nat) (rest p:List UInt8) (k:Nat) (ao:Option Addr) (n cap:Nat) (b:List UInt8) (w:World) (hb:Blk w sb (qe r v rest k) 304) (hrl:rest.length=16) (hp:rest.take k=p) (hk:p.length=k) (sQ:k < 16) (hr:r < PP) (hv:v < PP) (hn:b.length=n) (hc:n≤cap) (hn6:n≤1000000) (hl:∀ w',zI sb w w'→zr w' ao (b.map B)) :
  Calls Tryz.prog 223 #[.pointer (some ⟨sb,0,none⟩),.slice ao n cap] w fun e w'=>(∃ x,e=.returned x)∧(∃ rest',rest'.length=16∧rest'.take (yO r v (p++b)).2.length=(yO r v (p++b)).2∧Blk w' sb (qe r (yO r v (p++b)).1 rest' (yO r v (p++b)).2.length) 304)∧zI sb w w':=by
 have HSB:=znq hb
 have HO:=znq (zI.refl sb w)
 have HR:=znq hr
 have HV:=znq hv
 have HN:=znq hn
 have HL:=znq hl
 have HRP:=znq (show rest.length=16∧rest.take k=p∧p.length=k from ⟨hrl,hp,hk⟩)
 obtain ⟨fin,hfin⟩:∃ f,f=yO r v (p++b):=⟨_,rfl⟩
 have HF:=znq hfin.symm
 rw [← hfin]
 clear hb hr hv hn hl hrl hp hk hfin
 go_enter Tryz.func223,Tryz.ntmps223
 go_wp2_with fail
 refine yd 0 (zgU sb r fin w) (fun x _=>X9 (x.tmps.getD 1 undef)) rfl ?_ ?_
 ·simp only [q9]
  go_wp2
  exact zgU.intro ao n cap b v rest p k rfl hc hn6 sQ HN.znr HL.znr HRP.znr HV.znr HF.znr HSB.znr HO.znr
 ·clear HSB HO HV HN HL HRP HF hc hn6 sQ
  rintro x wr ⟨us,ao,n,c,bs,v,rest,p,k,rfl,hc,hn6,sQ,HN,HL,HRP,HV,HF,HSB,HO⟩
  obtain ⟨q,hq⟩:∃ q,q=min n (16 - k):=⟨_,rfl⟩
  have hq1:q≤n:=by omega
  have hq2:k+q≤16:=by omega
  have HQ:=znq (show q=min n (16 - k)∧True from ⟨hq,trivial⟩)
  have HTL:=znq (show (bs.take q).length=q from by rw [Ku,HN.znr];omega)
  clear hq
  have zbG:=fun (x:zG wr.drew)=>(HSB.znr.drew.below x.later HSB.znr.drew.lt).cell 26 _ (jB HRP.znr.1)
  have hs1:=fun (w':World)=>yY (P:=Tryz.prog) w' 117 5 16 Tryz.underlying117 zl sb 10 k k rfl (by omega)
  simp only [zaw]
  go_wp2_with fail
  refine zn [0,1,2,3,4,5,6,7,8,9,10] (by kernel_rfl) (by kernel_rfl) ?_
  rintro w1 rfl
  refine mqR ?_
  clear zbG hs1
  have HSB:=znq HSB.znr.drew
  have HO:=znq HO.znr.drew
  refine zp rfl rfl (by rfl) (fun K hK=>?_)
  refine HSB.znr.rC (10+k) ((bs.take q).map B) rfl rfl rfl Tryz.underlying22 zl (fun _=>rfl) (by rw [bN];exact (HL.znr _ HO.znr).take q) (by rw [yf,HTL.znr];exact HQ.znr.1) (by rw [yf,HTL.znr,jY HRP.znr.1];omega) (zg _) (fun w2 hb ho=>hK _ _ ?_)
  clear hK K
  rw [zhx (by rw [HTL.znr,HRP.znr.1];exact hq2)] at hb
  obtain ⟨rs,hrs⟩:∃ x,x=splice rest k (bs.take q):=⟨_,rfl⟩
  have HRS:=znq (show splice rest k (bs.take q)=rs∧rs.length=16 from ⟨hrs.symm,by rw [hrs,length_splice _ _ _ (by rw [HTL.znr,HRP.znr.1];exact hq2)];exact HRP.znr.1⟩)
  have HRT:=znq (show rs.take (k+q)=p++bs.take q from by
   rw [hrs]
   unfold splice
   rw [HRP.znr.2.1,← QA,uD (by rw [q8,HTL.znr,HRP.znr.2.2];omega),Y2 (by rw [q8,HTL.znr,HRP.znr.2.2];omega)])
  rw [← hrs] at hb
  clear hrs
  have HSB:=znq hb
  have HO:=znq (HO.znr.trans (zI.nH ho))
  clear hb ho
  simp only [yf,HTL.znr]
  go_simp
  refine mqR ?_
  refine zo ?_
  obtain ⟨m,hm⟩:∃ m,m=k+q:=⟨_,rfl⟩
  have hmI:(k:Int)+(q:Int)=(m:Int):=by omega
  have hm16:m≤16:=by omega
  have HM:=znq (show m=k+q∧True from ⟨hm,trivial⟩)
  rw [← hm] at HRT
  clear hm
  have zbG:=HSB.znr.cell 26 _ (jB HRS.znr.2)
  go_wp2_with (refine HSB.znr.ry (i:=26) (v:=.int .i64 m) rfl rfl rfl rfl Qx rfl rfl (by rw [jY HRS.znr.2];omega) ?_)
  intro w3 hb ho
  rw [zdj HRS.znr.2] at hb
  have HSB:=znq hb
  have HO:=znq (HO.znr.trans (zI.nH ho))
  clear hb ho zbG
  have hsl:=fun (w':World)=>yv (P:=Tryz.prog) w' 22 5 1 Tryz.underlying22 zl ao n c q q rfl hq1
  have zbG:=HSB.znr.cell 26 _ (jB HRS.znr.2)
  by_cases h16:m < 16
  ·have d16:decide ((m:Int) < 16)=true:=by simp;omega
   have HFE:=znq (show fin=(v,p++bs)∧q=n from ⟨by rw [← HF.znr,Wv (by rw [q8,HRP.znr.2.2,HN.znr];have:=HQ.znr.1;have:=HM.znr.1;omega)],by have:=HQ.znr.1;have:=HM.znr.1;omega⟩)
   have HPB:=znq (show p++bs=p++bs.take q∧(p++bs).length=m from ⟨by rw [Y2 (by rw [HN.znr,HFE.znr.2];exact xc _)],by rw [q8,HRP.znr.2.2,HN.znr,← HFE.znr.2];exact HM.znr.1.symm⟩)
   go_wp2
   try rw [Exit.nZ]
   refine bodyPost_ret (results_none rfl _ _ _) rfl ?_
   refine ⟨⟨_,rfl⟩,⟨rs,HRS.znr.2,?_,?_⟩,HO.znr⟩
   ·rw [HFE.znr.1,HPB.znr.2,HRT.znr]
    exact HPB.znr.1.symm
   ·rw [HFE.znr.1,HPB.znr.2]
    exact HSB.znr
  ·have d16:decide ((m:Int) < 16)=false:=by simp;omega
   have hm:=HM.znr.1
   have hkq:k+q=16:=by omega
   have HFE:=znq (show yO r (vX r v (ZR rs)) (bs.drop q)=fin from by
    rw [← HF.znr,← HRS.znr.1]
    exact (zav HRP.znr.2.1 HRP.znr.2.2 HRP.znr.1 hkq (by rw [HN.znr];exact hq1)).symm)
   clear hm
   go_wp2_with (refine HSB.znr.rZ (off:=10) rfl rfl rfl zc (WG HRS.znr.2) (by rw [yf];exact HRS.znr.2) ?_)
   refine (zkq rs _ HRS.znr.2).mono ?_
   rintro e w4 ⟨rfl,hbel⟩
   have HSB:=znq (HSB.znr.below hbel HSB.znr.lt)
   have HO:=znq (HO.znr.trans (zI.of_below hbel))
   clear hbel zbG hsl
   go_wp2_with fail
   refine (zda sb r v (ZR rs) rs m _ HSB.znr HR.znr HV.znr (ma _ ze6)).mono ?_
   rintro e w5 ⟨⟨x5,rfl⟩,hb,ho⟩
   have HSB:=znq hb
   have HO:=znq (HO.znr.trans ho)
   clear hb ho
   go_wp2_with (refine HSB.znr.ry (i:=26) (v:=.int .i64 (0:Nat)) rfl rfl rfl rfl Qx rfl rfl (by rw [jY HRS.znr.2];omega) ?_)
   intro w6 hb ho
   have HSB:=znq (show Blk w6 sb (qe r (vX r v (ZR rs)) rs 0) 304 from by rw [← zdj (k:=m) (m:=0) HRS.znr.2];exact hb)
   have HO:=znq (HO.znr.trans (zI.nH ho))
   clear hb ho
   go_wp2
   refine wp_goto ⟨rfl,zgU.intro (yy ao c q) (n - q) (c - q) (bs.drop q) (vX r v (ZR rs)) rs [] 0 rfl (by omega) (by omega) (by omega) (by rw [XQ,HN.znr]) (fun w' ho=>zr.rJ (HL.znr w' ho) (by rw [HN.znr];exact hc) q) ⟨HRS.znr.2,rfl,rfl⟩ (JW _ _ _) (by rw [uo];exact HFE.znr) HSB.znr HO.znr,?_⟩
   have:=HQ.znr.1
   simp [X9];omega
end Go.Proofs.YtjaioajjfiaheaaGreatDoor
namespace Go.Adi
open Ops Oct pI
theorem KO {p:List UInt8} {k:Nat} (hk:p.length=k) (h:k < 16):(splice (zf 16) 0 p).set k 1=p++[1]++zf (15 - p.length):=by
 have e:splice (zf 16) 0 p=p++zf (16 - k):=by
  unfold splice
  rw [cO,uo,bH,hk]
  congr 1
  unfold zf
  rw [List.drop_replicate]
 rw [e,dD _ _ (by omega),show k - p.length=0 by omega,hk,show 16 - k=(15 - k)+1 by omega]
 simp [zf,List.replicate_succ]
end Go.Adi
namespace Go.Proofs.YtjaioajjfiaheaaGreatDoor
open RowKit Mem Ops Cells Oct Trn Blake pI Adi
attribute [local irreducible] zE zN zO zM yJ
theorem zax:(Tryz.prog.info? 304).map (·.zero)=some (some (.agg (qe 0 0 (zf 16) 0).toArray)):=by kernel_rfl
theorem zdk (r v:Nat) (rest:List UInt8) (k:Nat):∀ x∈qe r v rest k,x.oneCell'=true:=by
 intro x hx
 unfold qe at hx
 simp only [List.mem_append] at hx
 rcases hx with ((h | h) | h) | h
 ·exact yT _ x h
 ·exact yT _ x h
 ·exact zg _ x h
 ·simp at h;rw [h];rfl
theorem zhy (sb r v:Nat) (rest p:List UInt8) (k:Nat) (w:World) (hb:Blk w sb (qe r v rest k) 304) (hrl:rest.length=16) (hp:rest.take k=p) (hk:p.length=k) (sQ:k < 16) (hr:r < PP) (hv:v < PP) :
  Calls Tryz.prog 237 #[.pointer (some ⟨sb,0,none⟩)] w fun e w'=>e=.returned (.agg ((numOf (qq r v p)).map W).toArray)∧Below w.heap.size w w':=by
 have HSB:=znq hb
 have HR:=znq hr
 have HV:=znq hv
 have HRP:=znq (show rest.length=16∧rest.take k=p∧p.length=k from ⟨hrl,hp,hk⟩)
 have HVV:=znq (xG v)
 have HS:=znq (St.start w)
 have hsb:=hb.lt
 clear hb hr hv hrl hp hk
 by_cases h0:k=0
 ·subst h0
  have HE:=znq (show qq r v p=v∧True from ⟨by unfold qq;rw [if_pos HRP.znr.2.2],trivial⟩)
  rw [HE.znr.1]
  go_enter Tryz.func237,Tryz.ntmps237
  go_wp2_with (refine ze 301 ((wh 5 (0:UInt32)).map W) _ rfl rfl xr rfl ?_)
  intro w1 hb hbel
  have HSB:=znq (HSB.znr.below hbel hsb)
  have HS:=znq (HS.znr.push hb hbel)
  clear hb hbel
  generalize hbb:w.heap.size=bb at *
  have HBB:=znq hbb
  clear hbb
  have zbG:=HSB.znr.cell 26 _ (jB (r:=r) (v:=v) (k:=0) HRP.znr.1)
  go_wp2_with (first | (refine HSB.znr.rZ (off:=5) rfl rfl rfl zP (Ve r v rest 0) HVV.znr ?_) | (refine (HS.znr.get 0 rfl).mM rfl rfl rfl (cs:=(numOf v).map W) rfl zP rfl rfl (yT _) ?_))
  intro w2 hb ho
  have HE:=znq (zk HS.znr.bel ho (by omega))
  clear ho zbG
  go_wp2
  refine hb.result rfl rfl rfl zP rfl ⟨rfl,?_⟩
  rw [HBB.znr]
  exact HE.znr
 ·have d0:((k:Int)==0)=false:=by simp;omega
  have HE:=znq (show qq r v p=vX r v (JV p)∧True from ⟨by unfold qq;rw [if_neg (by rw [HRP.znr.2.2];exact h0)],trivial⟩)
  rw [HE.znr.1]
  clear HE
  have HPL:=znq (show (p.map B).length=k by rw [yf];exact HRP.znr.2.2)
  go_enter Tryz.func237,Tryz.ntmps237
  go_wp2_with (refine ze 301 ((wh 5 (0:UInt32)).map W) _ rfl rfl xr rfl ?_)
  intro w1 hb hbel
  have HSB:=znq (HSB.znr.below hbel hsb)
  have HS:=znq (HS.znr.push hb hbel)
  have hlt1:=hb.lt
  clear hb hbel
  generalize hbb:w.heap.size=bb at *
  have HBB:=znq hbb
  clear hbb
  have zbG:=HSB.znr.cell 26 _ (jB HRP.znr.1)
  go_wp2_with (refine ze 117 ((zf 16).map B) _ rfl rfl zj rfl ?_)
  intro w2 hb hbel
  have HSB:=znq (HSB.znr.below hbel HSB.znr.lt)
  have HS:=znq (HS.znr.push hb hbel)
  have hlt2:=hb.lt
  clear hb hbel zbG
  generalize w1.heap.size=b1 at *
  have zbG:=fun (x:zG w2.drew)=>(HSB.znr.drew.below x.later HSB.znr.drew.lt).cell 26 _ (jB HRP.znr.1)
  have hs1:=fun (w':World)=>qN (P:=Tryz.prog) w' 117 5 16 Tryz.underlying117 zl sb 10 k k rfl (by omega) (by omega)
  go_wp2_with fail
  refine zn [0,1,2,3,4,5,6,7,8,9] (by kernel_rfl) (by kernel_rfl) ?_
  rintro w3 rfl
  refine mqR ?_
  clear zbG hs1
  have HSB:=znq HSB.znr.drew
  have HS:=znq HS.znr.drew
  have HLP:=znq (show zr w2.drew (some ⟨sb,10,none⟩) (p.map B) from Blk.su HSB.znr 10 (by
   have h:=congrArg (List.take k) (WG (r:=r) (v:=v) (k:=k) HRP.znr.1)
   rw [List.take_take,cz (by omega),← bN,HRP.znr.2.1] at h
   rw [HPL.znr]
   exact h))
  refine zp rfl rfl (by rfl) (fun K hK=>?_)
  refine (HS.znr.get 0 rfl).rC 0 (p.map B) rfl rfl rfl Tryz.underlying22 zl (fun _=>rfl) HLP.znr (by rw [HPL.znr];exact (cz (by omega)).symm) (by rw [HPL.znr,yf,zd];omega) (zg _) (fun w4 hb ho=>hK _ _ ?_)
  clear hK K
  rw [xV] at hb
  have HSB:=znq (HSB.znr.only ho (by omega))
  have HS:=znq (HS.znr.change 0 hb ho (by omega) (by simp;omega))
  have hz4:w2.heap.size≤w4.heap.size:=by rw [ho.size];exact xc _
  clear hb ho
  go_simp
  refine zo ?_
  have HLA:=znq (show (splice (zf 16) 0 p).set k 1=p++[1]++zf (15 - p.length)∧(splice (zf 16) 0 p).length=16 from ⟨KO HRP.znr.2.2 sQ,by rw [length_splice _ _ _ (by rw [zd,HRP.znr.2.2];omega),zd]⟩)
  generalize splice (zf 16) 0 p=z1 at *
  obtain ⟨la,hla⟩:∃ x,x=p++[1]++zf (15 - p.length):=⟨_,rfl⟩
  rw [← hla] at HLA
  have HLL:=znq (show la.length=16∧leN la % PP=JV p from ⟨by rw [← HLA.znr.1,List.length_set];exact HLA.znr.2,by rw [hla];rfl⟩)
  have HLV:=znq (show (la.map B).length=16 by rw [yf];exact HLL.znr.1)
  clear hla
  have zbG:=HSB.znr.cell 26 _ (jB HRP.znr.1)
  go_wp2_with (refine (HS.znr.get 0 rfl).ry (i:=k) (v:=B 1) rfl rfl rfl rfl zl rfl rfl (by rw [yf,HLA.znr.2];exact sQ) ?_)
  intro w5 hb ho
  rw [ym,HLA.znr.1] at hb
  have HSB:=znq (HSB.znr.only ho (by omega))
  have HS:=znq (HS.znr.change 0 hb ho (by omega) (by simp;omega))
  have hz5:w2.heap.size≤w5.heap.size:=by rw [ho.size];exact hz4
  clear hb ho zbG
  have HSL:=znq (jY (r:=r) (v:=v) (k:=k) HRP.znr.1)
  go_wp2_with (first | (refine HSB.znr.mP rfl rfl rfl Kv HSL.znr ?_) | (refine ze 304 (qe 0 0 (zf 16) 0) _ rfl rfl zax rfl ?_))
  intro w6 hb hbel
  have HS:=znq (HS.znr.push hb hbel)
  have zfP:=hb.lt
  clear hb hbel HSB
  generalize w5.heap.size=b5 at *
  go_wp2_with (refine (HS.znr.get 0 rfl).mM rfl rfl rfl (cs:=qe r v rest k) rfl Kv (jY (zd 16)) HSL.znr (zdk _ _ _ _) ?_)
  intro w7 hb ho
  have HS:=znq (HS.znr.change 0 hb ho (by omega) (by simp;omega))
  clear hb ho
  go_wp2_with (refine (HS.znr.get 1 rfl).mP rfl rfl rfl zc HLV.znr ?_)
  refine (zc9 la _ HLL.znr.1).mono ?_
  rintro e w8 ⟨rfl,hbel⟩
  rw [HLL.znr.2]
  have HS:=znq (HS.znr.later hbel)
  clear hbel
  go_wp2_with fail
  refine (zda b5 r v (JV p) rest k _ (HS.znr.get 0 rfl) HR.znr HV.znr (ma _ ze6)).mono ?_
  rintro e w9 ⟨⟨x9,rfl⟩,hb,ho⟩
  have HS:=znq (St.tq HS.znr 0 hb ho (by omega) (by simp;omega))
  clear hb ho
  have HPV:=znq (xG (vX r v (JV p)))
  go_wp2_with (first | (refine (HS.znr.get 0 rfl).rZ (off:=5) rfl rfl rfl zP (Ve r (vX r v (JV p)) rest k) HPV.znr ?_) | (refine (HS.znr.get 2 rfl).mM rfl rfl rfl (cs:=(numOf (vX r v (JV p))).map W) rfl zP rfl rfl (yT _) ?_))
  intro w10 hb ho
  have HE:=znq (zk HS.znr.bel ho (by omega))
  clear ho
  go_wp2
  refine hb.result rfl rfl rfl zP rfl ⟨rfl,?_⟩
  rw [HBB.znr]
  exact HE.znr
theorem zm3 (sb r v:Nat) (rest p:List UInt8) (k:Nat) (w:World) (hb:Blk w sb (qe r v rest k) 304) (hrl:rest.length=16) (hp:rest.take k=p) (hk:p.length=k) (sQ:k < 16) (hr:r < PP) (hv:v < PP) :
  Calls Tryz.prog 232 #[.pointer (some ⟨sb,0,none⟩)] w fun e w'=>e=.returned (.agg ((Z7 (qq r v p)).map B).toArray)∧Below w.heap.size w w':=by
 have HSB:=znq hb
 have HR:=znq hr
 have HV:=znq hv
 have HRP:=znq (show rest.length=16∧rest.take k=p∧p.length=k from ⟨hrl,hp,hk⟩)
 have HLL:=znq (show ((Z7 (qq r v p)).map B).length=16 by rw [yf];exact YA _)
 have HS:=znq (St.start w)
 have hsb:=hb.lt
 clear hb hr hv hrl hp hk
 go_enter Tryz.func232,Tryz.ntmps232
 go_wp2_with (refine ze 117 ((zf 16).map B) _ rfl rfl zj rfl ?_)
 intro w1 hb hbel
 have HSB:=znq (HSB.znr.below hbel hsb)
 have HS:=znq (HS.znr.push hb hbel)
 have hlt1:=hb.lt
 clear hb hbel
 generalize hbb:w.heap.size=bb at *
 have HBB:=znq hbb
 clear hbb
 go_wp2_with fail
 refine (zhy sb r v rest p k _ HSB.znr HRP.znr.1 HRP.znr.2.1 HRP.znr.2.2 sQ HR.znr HV.znr).mono ?_
 rintro e w2 ⟨rfl,hbel⟩
 have HS:=znq (HS.znr.later hbel)
 clear hbel
 go_wp2_with fail
 refine (zmu (qq r v p) _ (zhk HV.znr)).mono ?_
 rintro e w3 ⟨rfl,hbel⟩
 have HS:=znq (HS.znr.later hbel)
 clear hbel
 go_wp2_with (refine (HS.znr.get 0 rfl).mM rfl rfl rfl (cs:=(Z7 (qq r v p)).map B) rfl zc (by rw [yf,zd]) HLL.znr (zg _) ?_)
 intro w4 hb ho
 have HE:=znq (zk HS.znr.bel ho (by omega))
 clear ho
 go_wp2
 refine hb.result rfl rfl rfl zc HLL.znr ⟨rfl,?_⟩
 rw [HBB.znr]
 exact HE.znr
end Go.Proofs.YtjaioajjfiaheaaGreatDoor

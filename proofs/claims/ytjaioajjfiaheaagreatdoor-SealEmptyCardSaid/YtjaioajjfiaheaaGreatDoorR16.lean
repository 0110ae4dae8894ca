/-
  Texts of this claim, one behind the other.
-/
import Derived.Test.YtjaioajjfiaheaaGreatDoorR1
import Derived.Test.YtjaioajjfiaheaaGreatDoorR15
import Derived.Test.YtjaioajjfiaheaaGreatDoorR6
import Derived.Test.YtjaioajjfiaheaaGreatDoorR12
import Derived.Test.YtjaioajjfiaheaaGreatDoorR4
import Derived.Test.YtjaioajjfiaheaaGreatDoorR3
import Derived.Lib.Hide
set_option linter.unusedVariables false
set_option linter.unusedSimpArgs false
set_option maxHeartbeats 16000000
set_option maxRecDepth 100000
namespace Go.Cha
open Go.Ops Go.Oct Go.Trn
def Zs (t s:List UInt32) (i:Nat):List UInt32:=(List.range 16).map fun r=>if r < i then jI (yR t r) (yR s r) else yR t r
theorem jk (t s:List UInt32) (i:Nat):(Zs t s i).length=16:=by simp [Zs]
theorem YY (t s:List UInt32) (i r:Nat) (hr:r < 16):(Zs t s i)[r]? = some (if r < i then jI (yR t r) (yR s r) else yR t r):=by
 unfold Zs
 rw [List.getElem?_map,List.getElem?_range hr]
 rfl
theorem zm2 {t:List UInt32} (s:List UInt32) (h:t.length=16):Zs t s 0=t:=by
 apply List.ext_getElem?
 intro r
 rcases Nat.lt_or_ge r 16 with hr | hr
 ·rw [YY t s 0 r hr,if_neg (by omega),qO (by omega)]
 ·rw [List.getElem?_eq_none (by rw [jk];omega),List.getElem?_eq_none (by omega)]
theorem zkx (t s:List UInt32):Zs t s 16=addAll t s:=by
 unfold Zs addAll
 apply List.map_congr_left
 intro r hr
 rw [if_pos (List.mem_range.1 hr)]
theorem zfc (t s:List UInt32) {i:Nat} (hi:i < 16):(Zs t s i).set i (jI (yR t i) (yR s i))=Zs t s (i+1):=by
 apply List.ext_getElem?
 intro r
 rw [List.getElem?_set,jk]
 rcases Nat.lt_or_ge r 16 with hr | hr
 ·rw [YY t s (i+1) r hr]
  by_cases e:i=r
  ·subst e
   rw [if_pos rfl,if_pos hr,if_pos (by omega)]
  ·rw [if_neg e,YY t s i r hr]
   by_cases h:r < i
   ·rw [if_pos h,if_pos (by omega)]
   ·rw [if_neg h,if_neg (by omega)]
 ·rw [if_neg (by omega),List.getElem?_eq_none (by rw [jk];omega),List.getElem?_eq_none (by rw [jk];omega)]
theorem zdf (a b:List UInt8) (h:a.length=b.length):splice a 0 b=b:=by
 unfold splice
 rw [List.take_zero,List.nil_append,Nat.zero_add,List.drop_eq_nil_of_le (by omega),List.append_nil]
theorem zfd (z a b:List UInt8) (hz:z.length=32) (ha:a.length=16) (hb:b.length=16):splice (splice z 0 a) 16 b=a++b:=by
 unfold splice
 rw [List.take_zero,List.nil_append,Nat.zero_add,ha,hb,List.take_append_of_le_length (by omega),List.take_of_length_le (by omega),List.drop_append,List.drop_eq_nil_of_le (by omega),List.drop_drop,List.drop_eq_nil_of_le (by omega)]
 simp
end Go.Cha
namespace Go.Proofs.YtjaioajjfiaheaaGreatDoor
open Go.RowKit Go.Mem Go.Ops Go.Cells Go.Oct Go.Trn Go.Cha
attribute [local irreducible] zE zN zO zM yJ
theorem qN {P:Program} (w:World) (t e:TypeId) (n:Nat) (ht:P.underlying t=some (.array n e)) (hs:(P.info? e).map (·.size)=some 1) (b o hi:Nat) (i:Int) (h:i=hi) (h2:hi≤n) (h3:0 < n) :
  (Instr.sliceAt t (.pointer (some ⟨b,o,none⟩)) none (some (.int .i64 i)) none).run P w=.ok (.slice (some ⟨b,o,none⟩) hi n) w:=by
 subst h
 cases hq:P.info? e with
 | none=>rw [hq] at hs;cases hs
 | some x =>
  have hx:x.size=1:=by rw [hq] at hs;simpa using hs
  have hz:(sizeOf e).run P w=.ok 1 w:=by simp [sizeOf,typeInfo,hq,hx]
  have hne:n≠0:=by omega
  simp [Instr.sliceAt,run_underlying ht,Instr.sureAddr,Instr.sliceBounds,Instr.sliceBound,asIntOf,hz,h2,hne,add_eq,show ¬ n < hi by omega]
  try simp [Addr.add]
theorem wI:Row Tryz.prog 215 64:=⟨by kernel_rfl,by kernel_rfl⟩
theorem yP:Row Tryz.prog 186 32:=⟨by kernel_rfl,by kernel_rfl⟩
theorem ZU:(Tryz.prog.info? 215).map (·.zero)=some (some (.agg ((zf 64).map B).toArray)):=by kernel_rfl
theorem qA:(Tryz.prog.info? 186).map (·.zero)=some (some (.agg ((zf 32).map B).toArray)):=by kernel_rfl
theorem St.changeB {w0 w w':World} {base:Nat} {L:List (Nat×List Value×TypeId)} (h:St w0 base w L) (i:Nat) {b:Nat} {us:List Value} {ty:TypeId} (hb:Blk w' b us ty) (ho:zI b w w') (hbase:base≤b) (hne:∀ e∈L.eraseIdx i,e.1≠b):St w0 base w' (L.set i (b,us,ty)):=by
 refine ⟨h.base_le,jP h.bel ho hbase h.size,fun e he=>?_⟩
 obtain ⟨j,hj⟩:=List.mem_iff_getElem?.1 he
 rw [List.getElem?_set] at hj
 by_cases e1:i=j
 ·subst e1
  rw [if_pos rfl] at hj
  split at hj
  ·cases hj;exact hb
  ·cases hj
 ·rw [if_neg e1] at hj
  exact (h.all e (List.mem_of_getElem? hj)).onlyB ho (hne e (kA _ _ _ _ (fun h=>e1 h.symm) hj))
theorem zhw (key inn:List UInt8) (r:Nat) (w:World) (hk:key.length=32) (hi:inn.length=16) (hr:YX r) :
  Calls Tryz.prog 148 #[.agg (key.map B).toArray,.agg (inn.map B).toArray,.int .i64 r] w fun e w'=>e=.returned (.tuple #[.agg ((wW key inn r).map B).toArray,.int .i64 0])∧Below w.heap.size w w':=by
 have HK:=znq (show (key.map B).length=32 by rw [List.length_map];exact hk)
 have HI:=znq (show (inn.map B).length=16 by rw [List.length_map];exact hi)
 have HKL:=znq (show key.length=32∧True from ⟨hk,trivial⟩)
 have HIL:=znq (show inn.length=16∧True from ⟨hi,trivial⟩)
 have HRD:=znq hr
 have HS:=znq (St.start w)
 clear hk hi hr
 go_enter Tryz.func148,Tryz.ntmps148
 go_wp2_with (refine zh 186 _ (key.map B) _ rfl rfl rfl rfl ?_)
 intro w1 hb hbel;have HS:=znq (HS.znr.push hb hbel);have hlt1:=hb.lt;clear hb hbel
 go_wp2_with (refine zh 117 _ (inn.map B) _ rfl rfl rfl rfl ?_)
 intro w2 hb hbel;have HS:=znq (HS.znr.push hb hbel);have hlt2:=hb.lt;clear hb hbel
 go_wp2_with (refine ze 215 ((zf 64).map B) _ rfl rfl ZU rfl ?_)
 intro w3 hb hbel;have HS:=znq (HS.znr.push hb hbel);have hlt3:=hb.lt;clear hb hbel
 go_wp2_with (refine ze 215 ((zf 64).map B) _ rfl rfl ZU rfl ?_)
 intro w4 hb hbel;have HS:=znq (HS.znr.push hb hbel);have hlt4:=hb.lt;clear hb hbel
 generalize hbb:w.heap.size=bb at *
 generalize w1.heap.size=b1 at *
 generalize w2.heap.size=b2 at *
 generalize w3.heap.size=b3 at *
 have HBB:=znq hbb
 clear hbb
 go_wp2_with fail
 refine (zc6 r _ HRD.znr).mono ?_
 rintro e w5 ⟨rfl,rfl⟩
 go_wp2_with (first | (refine (HS.znr.get 3 rfl).wload rfl rfl rfl yP HK.znr ?_) | (refine (HS.znr.get 2 rfl).wload rfl rfl rfl zc HI.znr ?_))
 refine (zde key inn _ HKL.znr.1 HIL.znr.1).mono ?_
 rintro e w6 ⟨rfl,hbel⟩
 have HS:=znq (HS.znr.later hbel)
 obtain ⟨ss,hss⟩:∃ ss,ss=je key inn:=⟨_,rfl⟩
 have HSS:=znq (show je key inn=ss∧True from ⟨hss.symm,trivial⟩)
 have HSL:=znq (show ss.length=16∧True from ⟨by rw [hss];exact kq _ _,trivial⟩)
 have HSV:=znq (show (ss.map W).length=16 by rw [List.length_map];exact HSL.znr.1)
 rw [← hss]
 have hz6:=HS.znr.size
 clear hbel hss
 have h36:b3 < w6.heap.size:=HS.znr.ne _ (List.mem_of_getElem? (i:=0) rfl)
 go_wp2_with (refine ze 242 ((List.replicate 16 (0:UInt32)).map W) _ rfl rfl qt rfl ?_)
 intro w7 hb hbel;have HS:=znq (HS.znr.push hb hbel);have hlt7:=hb.lt;clear hb hbel
 generalize w6.heap.size=b6 at *
 go_wp2_with (first | (refine (HS.znr.get 0 rfl).wload rfl rfl rfl yW HSV.znr ?_) | (refine (HS.znr.get 0 rfl).wstore rfl rfl rfl (cs:=ss.map W) rfl yW rfl HSV.znr (yT _) ?_))
 intro w8 hb8 ho8
 have HS:=znq (HS.znr.change 0 hb8 ho8 (by omega) (by simp;omega))
 clear hb8 ho8
 go_wp2_with (refine (HS.znr.get 0 rfl).wload rfl rfl rfl yW HSV.znr ?_)
 refine (zc7 ss r _ HSL.znr.1 HRD.znr).mono ?_
 rintro e w9 ⟨rfl,hbel⟩
 have HS:=znq (HS.znr.later hbel)
 obtain ⟨ts,hts⟩:∃ ts,ts=xQ ss (r / 2):=⟨_,rfl⟩
 have HTS:=znq (show xQ ss (r / 2)=ts∧True from ⟨hts.symm,trivial⟩)
 have HTL:=znq (show ts.length=16∧True from ⟨by rw [hts,q5];exact HSL.znr.1,trivial⟩)
 have HTV:=znq (show (ts.map W).length=16 by rw [List.length_map];exact HTL.znr.1)
 rw [← hts]
 clear hbel hts
 have h69:b6 < w9.heap.size:=HS.znr.ne _ (List.mem_of_getElem? (i:=0) rfl)
 go_wp2_with (refine ze 242 ((List.replicate 16 (0:UInt32)).map W) _ rfl rfl qt rfl ?_)
 intro w10 hb hbel;have HS:=znq (HS.znr.push hb hbel);have hlt10:=hb.lt;clear hb hbel
 generalize w9.heap.size=b9 at *
 go_wp2_with (refine (HS.znr.get 0 rfl).wstore rfl rfl rfl (cs:=ts.map W) rfl yW rfl HTV.znr (yT _) ?_)
 intro w11 hb11 ho11
 have HS:=znq (HS.znr.change 0 hb11 ho11 (by omega) (by simp;omega))
 clear hb11 ho11
 go_wp2
 go_loopw [25] (fun c wr=>∃ (i:Nat),i≤16∧c=.int .i64 i∧Hid (St w bb wr [(b9,(Zs ts ss i).map W,242),(b6,ss.map W,242),(b3,(zf 64).map B,215),(b2,(zf 64).map B,215),(b1,inn.map B,117),(bb,key.map B,186)])) (fun c _=>16 - (intOf c).toNat)
 case atStart=>exact ⟨0,by omega,rfl,znq (by rw [zm2 ss HTL.znr.1];exact HS.znr)⟩
 case round =>
  clear HS
  obtain ⟨i,hi,rfl,HS⟩:=hrel
  by_cases hlt:i < 16
  ·have HGL:=znq (jk ts ss i)
   have HGS:=znq (show (Zs ts ss i).set i (jI (yR ts i) (yR ss i))=Zs ts ss (i+1)∧True from ⟨zfc ts ss hlt,trivial⟩)
   have hg:(Zs ts ss i)[i]? = some (yR ts i):=by rw [YY ts ss i i hlt,if_neg (by omega)]
   have hc0:=fun (x:zG wr.drew)=>((HS.znr.get 0 rfl).drew.below x.later (HS.znr.get 0 rfl).drew.lt).cell i _ (kz hg)
   have hc1:=fun (x:zG wr.drew)=>((HS.znr.get 1 rfl).drew.below x.later (HS.znr.get 1 rfl).drew.lt).cell i _ (kz (qO (l:=ss) (i:=i) (by rw [HSL.znr.1];exact hlt)))
   clear hg
   go_wp2_with fail
   refine zn [0,1,2,3,4,5,6,7,8] (by kernel_rfl) (by kernel_rfl) ?_
   rintro w12 rfl
   refine mqR ?_
   clear hc0 hc1
   have HS:=znq HS.znr.drew
   refine zp rfl rfl (by rfl) (fun K hK=>?_)
   refine (HS.znr.get 0 rfl).opset (v:=W (jI (yR ts i) (yR ss i))) rfl rfl rfl yt rfl rfl (by rw [List.length_map,HGL.znr];exact hlt) (fun w13 hb13 ho13=>hK _ _ ?_)
   clear hK K
   rw [xI,HGS.znr.1] at hb13
   have HS:=znq (HS.znr.change 0 hb13 ho13 (by omega) (by simp;omega))
   clear hb13 ho13
   go_simp
   refine zo ?_
   go_wp2
   go_roundw
   case rel=>exact ⟨i+1,by omega,by go_num,HS⟩
   case measure=>simp [intOf];omega
  ·obtain rfl:i=16:=by omega
   rw [zkx] at HS
   have HAL:=znq (wV ts ss)
   have HOUT:=znq (show splice (zf 64) 0 (xi (addAll ts ss))=wW key inn r∧True from ⟨by rw [zdf _ _ (by rw [xp,wV,zd])];unfold wW;rw [HSS.znr.1,HTS.znr.1],trivial⟩)
   have HOV:=znq (show ((wW key inn r).map B).length=64 by rw [List.length_map,wX])
   generalize addAll ts ss=us at *
   go_wp2_with fail
   refine kW (fun u v=>Below u.heap.size u v) [2] [(0,2),(1,2),(2,0)] (fun a=>Below.refl _ a) (fun _ _ _ h1 h2=>h1.trans (h2.mono h1.size)) (by kernel_rfl) (by kernel_rfl) ?_
   rintro w14 rfl
   have HS:=znq HS.znr.drew
   refine mqN ?_
   refine yS rfl (by rfl) (fun K hK=>?_)
   go_simp
   refine (zas b3 0 64 64 _ 16 16 (zf 64) us 215 _ (HS.znr.get 2 rfl) (HS.znr.get 0 rfl).lies HAL.znr (by omega) (by rw [zd];omega) (by omega) (by omega)).mono ?_
   rintro e w15 ⟨⟨v15,rfl⟩,hb15,ho15⟩
   rw [HOUT.znr.1] at hb15
   have HS:=znq (St.changeB HS.znr 2 hb15 ho15 (by omega) (by simp;omega))
   clear hb15 ho15
   go_simp
   refine hK _ _ (fun h=>by cases h) ?_
   clear hK K
   refine jA ?_
   go_wp2_with (first | (refine (HS.znr.get 2 rfl).wload rfl rfl rfl wI HOV.znr ?_) | (refine (HS.znr.get 3 rfl).wstore rfl rfl rfl (cs:=(wW key inn r).map B) rfl wI rfl HOV.znr (zg _) ?_))
   intro w16 hb16 ho16
   have HE:=znq (zk HS.znr.bel ho16 (by omega))
   clear ho16
   go_wp2
   refine hb16.result2 (v:=.int .i64 0) rfl rfl rfl rfl wI HOV.znr ⟨rfl,?_⟩
   rw [HBB.znr]
   exact HE.znr
theorem WE (key inn:List UInt8) (r:Nat) (w:World) (hk:key.length=32) (hi:inn.length=16) (hr:YX r) :
  Calls Tryz.prog 147 #[.agg (key.map B).toArray,.agg (inn.map B).toArray,.int .i64 r] w fun e w'=>e=.returned (.tuple #[.agg ((jw key inn r).map B).toArray,.int .i64 0])∧Below w.heap.size w w':=by
 have HK:=znq (show (key.map B).length=32 by rw [List.length_map];exact hk)
 have HI:=znq (show (inn.map B).length=16 by rw [List.length_map];exact hi)
 have HKL:=znq (show key.length=32∧True from ⟨hk,trivial⟩)
 have HIL:=znq (show inn.length=16∧True from ⟨hi,trivial⟩)
 have HRD:=znq hr
 have HS:=znq (St.start w)
 clear hk hi hr
 go_enter Tryz.func147,Tryz.ntmps147
 go_wp2_with (refine zh 186 _ (key.map B) _ rfl rfl rfl rfl ?_)
 intro w1 hb hbel;have HS:=znq (HS.znr.push hb hbel);have hlt1:=hb.lt;clear hb hbel
 go_wp2_with (refine zh 117 _ (inn.map B) _ rfl rfl rfl rfl ?_)
 intro w2 hb hbel;have HS:=znq (HS.znr.push hb hbel);have hlt2:=hb.lt;clear hb hbel
 go_wp2_with (refine ze 186 ((zf 32).map B) _ rfl rfl qA rfl ?_)
 intro w3 hb hbel;have HS:=znq (HS.znr.push hb hbel);have hlt3:=hb.lt;clear hb hbel
 go_wp2_with (refine ze 186 ((zf 32).map B) _ rfl rfl qA rfl ?_)
 intro w4 hb hbel;have HS:=znq (HS.znr.push hb hbel);have hlt4:=hb.lt;clear hb hbel
 generalize hbb:w.heap.size=bb at *
 generalize w1.heap.size=b1 at *
 generalize w2.heap.size=b2 at *
 generalize w3.heap.size=b3 at *
 have HBB:=znq hbb
 clear hbb
 go_wp2_with fail
 refine (zc6 r _ HRD.znr).mono ?_
 rintro e w5 ⟨rfl,rfl⟩
 go_wp2_with (first | (refine (HS.znr.get 3 rfl).wload rfl rfl rfl yP HK.znr ?_) | (refine (HS.znr.get 2 rfl).wload rfl rfl rfl zc HI.znr ?_))
 refine (zde key inn _ HKL.znr.1 HIL.znr.1).mono ?_
 rintro e w6 ⟨rfl,hbel⟩
 have HS:=znq (HS.znr.later hbel)
 clear hbel
 go_wp2_with fail
 refine (zc7 (je key inn) r _ (kq _ _) HRD.znr).mono ?_
 rintro e w9 ⟨rfl,hbel⟩
 have HS:=znq (HS.znr.later hbel)
 obtain ⟨ts,hts⟩:∃ ts,ts=xQ (je key inn) (r / 2):=⟨_,rfl⟩
 have HTL:=znq (show ts.length=16∧True from ⟨by rw [hts,q5,kq],trivial⟩)
 have HTV:=znq (show (ts.map W).length=16 by rw [List.length_map];exact HTL.znr.1)
 have HOUT:=znq (show splice (splice (zf 32) 0 (xi (ts.take 4))) 16 (xi (ts.drop 12))=jw key inn r∧True from ⟨by
  rw [zfd _ _ _ (zd 32) (by rw [xp,List.length_take,HTL.znr.1];omega) (by rw [xp,List.length_drop,HTL.znr.1]),hts];rfl,trivial⟩)
 have HOV:=znq (show ((jw key inn r).map B).length=32 by rw [List.length_map,wY])
 have HSPL:=znq (show (splice (zf 32) 0 (xi (ts.take 4))).length=32 from by rw [length_splice _ _ _ (by rw [xp,List.length_take,zd];omega),zd])
 rw [← hts]
 clear hbel hts
 have h69:b3 < w9.heap.size:=HS.znr.ne _ (List.mem_of_getElem? (i:=0) rfl)
 go_wp2_with (refine ze 242 ((List.replicate 16 (0:UInt32)).map W) _ rfl rfl qt rfl ?_)
 intro w10 hb hbel;have HS:=znq (HS.znr.push hb hbel);have hlt10:=hb.lt;clear hb hbel
 generalize w9.heap.size=b9 at *
 go_wp2_with (refine (HS.znr.get 0 rfl).wstore rfl rfl rfl (cs:=ts.map W) rfl yW rfl HTV.znr (yT _) ?_)
 intro w11 hb11 ho11
 have HS:=znq (HS.znr.change 0 hb11 ho11 (by omega) (by simp;omega))
 clear hb11 ho11
 have hs1:=fun (w':World)=>qN (P:=Tryz.prog) w' 242 149 16 Tryz.underlying242 yt b9 0 4 4 rfl (by omega) (by omega)
 have hs2:=fun (w':World)=>yY (P:=Tryz.prog) w' 242 149 16 Tryz.underlying242 yt b9 0 12 12 rfl (by omega)
 have hs3:=fun (w':World)=>yY (P:=Tryz.prog) w' 186 5 32 Tryz.underlying186 zl b3 0 16 16 rfl (by omega)
 have HS2:=znq hs2
 have HS3:=znq hs3
 clear hs2 hs3
 go_wp2_with fail
 refine kW (fun u v=>Below u.heap.size u v) [2] [(0,2),(1,2),(2,0)] (fun a=>Below.refl _ a) (fun _ _ _ h1 h2=>h1.trans (h2.mono h1.size)) (by kernel_rfl) (by kernel_rfl) ?_
 rintro w14 rfl
 have HS:=znq HS.znr.drew
 refine mqN ?_
 clear hs1
 refine yS rfl (by rfl) (fun K hK=>?_)
 go_simp
 refine (zas b3 0 32 32 (some ⟨b9,0,none⟩) 4 16 (zf 32) (ts.take 4) 186 _ (HS.znr.get 1 rfl) (by rw [List.map_take];exact (HS.znr.get 0 rfl).lies.take 4) (by rw [List.length_take,HTL.znr.1];rfl) (by omega) (by rw [zd];omega) (by omega) (by omega)).mono ?_
 rintro e w15 ⟨⟨v15,rfl⟩,hb15,ho15⟩
 have HS:=znq (St.changeB HS.znr 1 hb15 ho15 (by omega) (by simp;omega))
 clear hb15 ho15
 go_simp
 refine hK _ _ (fun h=>by cases h) ?_
 clear hK K
 refine jA ?_
 have hs2:=HS2.znr
 have hs3:=HS3.znr
 go_wp2_with fail
 refine kW (fun u v=>Below u.heap.size u v) [2] [(0,2),(1,2),(2,0)] (fun a=>Below.refl _ a) (fun _ _ _ h1 h2=>h1.trans (h2.mono h1.size)) (by kernel_rfl) (by kernel_rfl) ?_
 rintro w16 rfl
 have HS:=znq HS.znr.drew
 refine mqN ?_
 clear hs2 hs3
 refine yS rfl (by rfl) (fun K hK=>?_)
 go_simp
 refine (zas b3 16 16 16 (some ⟨b9,12,none⟩) 4 4 (splice (zf 32) 0 (xi (ts.take 4))) (ts.drop 12) 186 _ (HS.znr.get 1 rfl) (by rw [List.map_drop];exact Blk.liesIn (HS.znr.get 0 rfl) 12 (by rw [List.take_of_length_le (Nat.le_refl _)])) (by rw [List.length_drop,HTL.znr.1]) (by omega) (by rw [HSPL.znr];omega) (by omega) (by omega)).mono ?_
 rintro e w17 ⟨⟨v17,rfl⟩,hb17,ho17⟩
 rw [HOUT.znr.1] at hb17
 have HS:=znq (St.changeB HS.znr 1 hb17 ho17 (by omega) (by simp;omega))
 clear hb17 ho17
 go_simp
 refine hK _ _ (fun h=>by cases h) ?_
 clear hK K
 refine jA ?_
 go_wp2_with (first | (refine (HS.znr.get 1 rfl).wload rfl rfl rfl yP HOV.znr ?_) | (refine (HS.znr.get 2 rfl).wstore rfl rfl rfl (cs:=(jw key inn r).map B) rfl yP rfl HOV.znr (zg _) ?_))
 intro w18 hb18 ho18
 have HE:=znq (zk HS.znr.bel ho18 (by omega))
 clear ho18
 go_wp2
 refine hb18.result2 (v:=.int .i64 0) rfl rfl rfl rfl yP HOV.znr ⟨rfl,?_⟩
 rw [HBB.znr]
 exact HE.znr
end Go.Proofs.YtjaioajjfiaheaaGreatDoor
namespace Go
open Go.RowKit
def Region.after:List Nat→Array Bool→Array Bool
 | [],l=>l
 | i::r,l=>Region.after r (l.setIfInBounds i true)
def Region.checkM (brk:List Nat) (md:Region.Mode) (ops:Array Oper):List Nat→Array Bool→Bool
 | [],_=>true
 | i::r,listed =>
  (match ops[i]? with
   | none=>false
   | some _=>(Region.ready md ops listed).contains i && Region.freeK brk md ops listed i) &&
  Region.checkM brk md ops r (listed.setIfInBounds i true)
section
variable {P:Program} {ops:Array Oper} {Q:Exit→Act→World→Prop} {md:Region.Mode} {R:World→World→Prop} {brk:List Nat} {C:Act→World→Prop}
def qM (R:World→World→Prop) (P:Program) (ops:Array Oper) (C:Act→World→Prop):List Nat→Act→World→Prop
 | [],a,w=>C a w
 | i::r,a,w =>
  match ops[i]? with
  | none=>False
  | some o =>
   if Region.wanted o (yielded ops a.tmps)=true then ∃ v,(∀ w',R w w'→(execOp a.eval o).run P w'=.ok (.value v) w')∧qM R P ops C r (a.put o.dst v) w
   else qM R P ops C r (a.put o.dst undef) w
theorem wT (fuel:Nat) (hrf:∀ a,R a a) (ht:∀ a b c,R a b→R b c→R a c) (hs:Region.noSelect ops=true) (hQ:∀ c a w,¬ Q (.panic c) a w):∀ (order:List Nat) (listed:Array Bool) (a:Act) (w:World),
  Region.checkM brk md ops order listed=true→qM R P ops (qj R brk P md ops Q fuel (Region.after order listed)) order a w→qj R brk P md ops Q (order.length+fuel) listed a w
 | [],listed,a,w,_,h=>by
  simp only [List.length_nil,Nat.zero_add]
  exact h
 | i::r,listed,a,w,hB,h=>by
  simp only [Region.checkM,Bool.and_eq_true] at hB
  obtain ⟨hB1,hB2⟩:=hB
  have hfu:(i::r).length+fuel=(r.length+fuel)+1:=by simp only [List.length_cons];omega
  rw [hfu]
  cases ho:ops[i]? with
  | none=>simp [ho] at hB1
  | some o =>
   simp only [ho,Bool.and_eq_true] at hB1
   simp only [qM,ho,Region.after] at h
   by_cases hw:Region.wanted o (yielded ops a.tmps)=true
   ·rw [if_pos hw] at h
    obtain ⟨v,hv,hr⟩:=h
    obtain ⟨D,hDi,hD,hDu,hDf⟩:=Region.freeK_spec ho hB1.2
    exact qW hrf ht ho (Region.noSelect_spec hs) (fun c a w hq=>absurd hq (hQ _ _ _)) D hDi hD (r.length+fuel) listed a w hDu hDf (by simpa using hB1.1) (.inl ⟨hw,hv⟩)
     (wT fuel hrf ht hs hQ r _ _ _ hB2 hr)
   ·rw [if_neg hw] at h
    obtain ⟨D,hDi,hD,hDu,hDf⟩:=Region.freeK_spec ho hB1.2
    exact qW hrf ht ho (Region.noSelect_spec hs) (fun c a w hq=>absurd hq (hQ _ _ _)) D hDi hD (r.length+fuel) listed a w hDu hDf (by simpa using hB1.1) (.inr ⟨by simpa using hw,rfl⟩)
     (wT fuel hrf ht hs hQ r _ _ _ hB2 h)
theorem Kk {id:Nat} {l:List Oper} {a:Act} {w:World} (R:World→World→Prop) (brk:List Nat) (order:List Nat) (fuel:Nat) (hrf:∀ a,R a a) (ht:∀ a b c,R a b→R b c→R a c) (hm:P.follows .mixedOrders=true)
  (hB:(Region.noSelect l.toArray && (order.length+fuel==l.length) && Region.checkM brk .any l.toArray order (Array.replicate l.length false))=true)
  (h:∀ w',w'=w.drew→qM R P l.toArray (qj R brk P .any l.toArray (NoPanic Q) fuel (Region.after order (Array.replicate l.length false))) order a w'):(Code.region id l.toArray true).wp P Q a w:=by
 simp only [Bool.and_eq_true,beq_iff_eq] at hB
 obtain ⟨⟨hs,hl⟩,hB⟩:=hB
 refine wp_region_noPanic (wp_region_any hm (ZD (R:=R) (brk:=brk) _ _ _ _ ?_))
 have:=wT (R:=R) (brk:=brk) (P:=P) (Q:=NoPanic Q) fuel hrf ht hs (fun c a w hq=>hq) order _ a w.drew hB (h _ rfl)
 rw [hl] at this
 exact this
theorem zex {fuel i j:Nat} {oi oj:Oper} {listed:Array Bool} {a:Act} {w:World} (hr:Region.ready md ops listed=[i,j]) (hoi:ops[i]? = some oi) (hoj:ops[j]? = some oj)
  (hwi:Region.wanted oi (yielded ops a.tmps)=true) (hwj:Region.wanted oj (yielded ops a.tmps)=true)
  (h1:∀ K:Act→World→Prop,(∀ a' w',(brk.contains i=false→R w w')→qj R brk P md ops Q fuel (listed.setIfInBounds i true) a' w'→K a' w')→oi.wp P a w K Q)
  (h2:∀ K:Act→World→Prop,(∀ a' w',(brk.contains j=false→R w w')→qj R brk P md ops Q fuel (listed.setIfInBounds j true) a' w'→K a' w')→oj.wp P a w K Q) :
  qj R brk P md ops Q (fuel+1) listed a w:=by
 refine ⟨fun h=>(by rw [hr] at h;cases h),fun k hk=>?_⟩
 rw [hr] at hk
 simp only [List.mem_cons,List.not_mem_nil,or_false] at hk
 rcases hk with rfl | rfl
 ·unfold wpOp
  simp only [hoi]
  rw [if_pos hwi]
  exact .inl (h1 _ fun _ _ ha hb=>⟨ha,hb⟩)
 ·unfold wpOp
  simp only [hoj]
  rw [if_pos hwj]
  exact .inl (h2 _ fun _ _ ha hb=>⟨ha,hb⟩)
theorem vG {a:Act} {w:World} (h:C a w):qM R P ops C [] a w:=h
theorem qH {i:Nat} {r:List Nat} {o:Oper} {tl:List Oper} {a:Act} {w:World} (hd:ops.toList.drop i=o::tl) (hk:o.kindR=0)
  (hh:∀ K:Act→Prop,(∀ a',qM R P ops C r a' w→K a')→wpQuiet P ops (KJ R w) K [o] a):qM R P ops C (i::r) a w:=by
 have h:=hh (fun a'=>qM R P ops C r a' w) (fun _ h=>h)
 have ho:ops[i]? = some o:=by
  have:=congrArg (·[0]?) hd
  simpa using this
 simp only [wpQuiet] at h
 simp only [qM,ho]
 by_cases hw:Region.wanted o (yielded ops a.tmps)=true
 ·rw [if_pos hw] at h ⊢
  obtain ⟨v,hv,hn⟩:=h
  exact ⟨v,fun w' hw'=>xv hk (hv w' ⟨⟨w',hw'⟩,rfl⟩),hn⟩
 ·rw [if_neg hw] at h ⊢
  exact h
end
end Go
namespace Go
open Go.RowKit Go.Cells
section
variable {P:Program} {ops:Array Oper} {Q:Exit→Act→World→Prop} {md:Region.Mode} {brk:List Nat} {C:Act→World→Prop}
instance (w:World):Nonempty (xR zW w):=⟨⟨w,zW.refl w⟩⟩
theorem Kw {i:Nat} {r:List Nat} {o:Oper} {a:Act} {w:World} {ty:TypeId} {x:Operand} {b off n:Nat} {vs:List Value} (h:w.rangeAt b off vs) (hb:b < w.heap.size) (hr:Row P ty n) (hn:vs.length=n)
  (ho:ops[i]? = some o) (hg:o.guard=none) (hop:o.op=.load ty x) (hx:a.eval x=.pointer (some ⟨b,off,none⟩))
  (k:∀ K:Act→Prop,(∀ a',qM zW P ops C r a' w→K a')→K (a.put o.dst (.agg vs.toArray))):qM zW P ops C (i::r) a w:=by
 have hw:Region.wanted o (yielded ops a.tmps)=true:=by simp [Region.wanted,hg]
 simp only [qM,ho,hw,if_true]
 exact ⟨_,fun w' hw'=>wt hop hx hr hn (ke h hw' hb),k _ fun _ h=>h⟩
theorem Qv {listed:Array Bool} {a:Act} {w:World} (order:List (Nat×Nat))
  (hB:(Region.noSelect ops && Region.checkN brk md ops order listed)=true) (h:yJ zW brk P ops (NoPanic Q) order a w):qj zW brk P md ops (NoPanic Q) order.length listed a w:=by
 simp only [Bool.and_eq_true] at hB
 exact xh zW.refl (fun _ _ _ h1 h2=>h1.trans h2) hB.1 (fun c a w hq=>hq) order listed a w hB.2 h
end
end Go
namespace Go.Proofs.YtjaioajjfiaheaaGreatDoor
open Go.RowKit Go.Mem Go.Ops Go.Cells Go.Oct Go.Gf Go.Trn Go.Aes Go.Ring Go.Ezk Go.Ezh Go.Ezt Go.Ezc Go.CutP Go.Fl
attribute [local irreducible] zE zN zO zM yu
def wj (A M R:List UInt8) (tl:List Value):List Value:=(A++M++R).map B++tl
theorem Wk {A a b R:List UInt8} {tl:List Value} {o:Nat} (ho:A.length=o) (ha:a.length=16):((wj A (a++b) R tl).drop o).take 16=a.map B:=by
 subst ho
 unfold wj
 rw [List.append_assoc A,List.map_append,List.append_assoc,show A.length=(A.map B).length by simp,List.drop_left,List.append_assoc a,List.map_append,List.append_assoc,show (16:Nat)=(a.map B).length by simp [ha],List.take_left]
theorem XG {A a b R:List UInt8} {tl:List Value} {o:Nat} (ho:A.length=o) (ha:a.length=16) (hb:b.length=16):((wj A (a++b) R tl).drop (o+16)).take 16=b.map B:=by
 subst ho
 unfold wj
 rw [show A++(a++b)++R=(A++a)++(b++R) by simp,List.map_append,List.append_assoc,show A.length+16=((A++a).map B).length by simp [ha],List.drop_left,List.map_append,List.append_assoc,show (16:Nat)=(b.map B).length by simp [hb],List.take_left]
theorem zce {A M C R:List UInt8} {tl:List Value} {o:Nat} (ho:A.length=o) (h:C.length=M.length):(wj A M R tl).take o++C.map B++(wj A M R tl).drop (o+(C.map B).length)=wj A C R tl:=by
 subst ho
 unfold wj
 have e1:((A++M++R).map B++tl).take A.length=A.map B:=by
  rw [List.append_assoc A,List.map_append,List.append_assoc,show A.length=(A.map B).length by simp,List.take_left]
 have e2:((A++M++R).map B++tl).drop (A.length+(C.map B).length)=R.map B++tl:=by
  rw [List.map_append,List.append_assoc,show A.length+(C.map B).length=((A++M).map B).length by simp [h],List.drop_left]
 rw [e1,e2,List.map_append,List.map_append]
 simp [List.append_assoc]
theorem zcf {A M R:List UInt8} {tl:List Value} (h:M.length=32):A.length+32≤(wj A M R tl).length:=by
 unfold wj;simp [h]
theorem zf1 {α:Type} {l:List α} {i:Nat} {x:α} (h:l[i]? = some x):l.drop i=x::l.drop (i+1):=by
 obtain ⟨hl,he⟩:=List.getElem?_eq_some_iff.1 h
 rw [List.drop_eq_getElem_cons hl,he]
theorem Kj (k:zv):∀ (ps:y9) (n:Nat) (p:List UInt8×List UInt8),yh k n (ps++[p])=yh k n ps++[(wOf k (n+ps.length) p,xOf k (n+ps.length) p)]
 | [],n,p=>by simp [yh]
 | q::ps,n,p=>by
  simp only [List.cons_append,yh,Kj k ps (n+1) p,List.length_cons]
  rw [show n+1+ps.length=n+(ps.length+1) by omega]
theorem jc:∀ (ps qs:y9),zV (ps++qs)=zV ps++zV qs
 | [],_=>rfl
 | p::ps,qs=>by simp only [List.cons_append,zV,jc ps qs,List.append_assoc]
theorem zj8 (kp q p:Nat) (k:zv) (pb np cp:Nat) (ps:y9) (tl:List Value) (uv vv:Value) (x y:List UInt8) (w:World) (hk:xH w kp q p k) (hnp:ps.length=np) (hf:∀ r∈ps,xO r)
  (hp:Blk w pb ((zV ps).map B++tl) 212) (hb:np≤900) :
  Calls Tryz.prog 124 #[.agg (z4 (.slice (some ⟨pb,0,none⟩) np cp) uv vv x y).toArray,.pointer (some ⟨kp,0,none⟩)] w fun e w'=>e=.returned (.agg ((qK k 0 (zf 16) ps).map B).toArray)∧Blk w' pb ((zV (yh k 0 ps)).map B++tl) 212∧zI pb w w':=by
 have n1:kp≠pb:=hk.blk.ne' hp (by decide)
 have n2:q≠pb:=hk.tab.tab.ne' hp (by decide)
 have n3:p≠pb:=hk.tab.boxes.ne' hp (by decide)
 have HK:=znq hk
 have HNP:=znq hnp
 have HF:=znq hf
 have hpb:=hp.lt
 have HS:=znq ((Su.start pb w).add hp)
 obtain ⟨V,hV⟩:∃ V,V=z4 (.slice (some ⟨pb,0,none⟩) np cp) uv vv x y:=⟨_,rfl⟩
 have HVV:=znq (show V=z4 (.slice (some ⟨pb,0,none⟩) np cp) uv vv x y∧True from ⟨hV,trivial⟩)
 obtain ⟨S,hS⟩:∃ S,S=qK k 0 (zf 16) ps:=⟨_,rfl⟩
 have HSS:=znq (show qK k 0 (zf 16) ps=S∧True from ⟨hS.symm,trivial⟩)
 rw [← hV,← hS]
 clear hk hnp hf hp hV hS
 go_enter Tryz.func124,Tryz.ntmps124
 go_wp2_with (refine zh 181 _ (V) _ rfl rfl rfl rfl ?_)
 intro w1 hb hbel;have HS:=znq (HS.znr.push hb hbel);have hlt1:=hb.lt;clear hb hbel
 go_wp2_with (refine ze 117 ((zf 16).map B) _ rfl rfl zj rfl ?_)
 intro w2 hb hbel;have HS:=znq (HS.znr.push hb hbel);have hlt2:=hb.lt;clear hb hbel
 go_wp2_with (refine ze 117 ((zf 16).map B) _ rfl rfl zj rfl ?_)
 intro w3 hb hbel;have HS:=znq (HS.znr.push hb hbel);have hlt3:=hb.lt;clear hb hbel
 generalize hbb:w.heap.size=bb at *
 generalize w1.heap.size=bw1 at *
 generalize w2.heap.size=bw2 at *
 have HBB:=znq hbb
 clear hbb
 have hc0:=(HS.znr.get 2 rfl).cell 0 (.slice (some ⟨pb,0,none⟩) np cp) (by rw [HVV.znr.1];rfl)
 go_wp2
 go_loopw [12] (fun c wr=>∃ (i:Nat) (sum:List UInt8),i≤np∧c=.int .i64 i∧Hid (sum.length=16)∧Hid (qK k i sum (ps.drop i)=S∧True)∧Hid (Su w pb wr [(bw2,sum.map B,117),(bw1,(zf 16).map B,117),(bb,V,181),(pb,(zV (yh k 0 (ps.take i)++ps.drop i)).map B++tl,212)])) (fun c _=>np - (intOf c).toNat)
 case atStart=>exact ⟨0,zf 16,by omega,rfl,znq (zd 16),HSS,HS⟩
 case round =>
  clear HS hc0
  obtain ⟨i,sum,hi,rfl,HX,HE,HS⟩:=hrel
  have HXM:=znq (show (sum.map B).length=16 by rw [List.length_map];exact HX.znr)
  have hr2:=(HS.znr.get 0 rfl).lt
  by_cases hlt:i < np
  ·obtain ⟨⟨a,b⟩,hpi⟩:∃ r,ps[i]? = some r:=⟨ps[i]'(by rw [HNP.znr];exact hlt),by simp⟩
   have hd:=zf1 hpi
   have hab:=HF.znr _ (List.mem_of_getElem? hpi)
   have HA:=znq (show a.length=16 from hab.1)
   have HB:=znq (show b.length=16 from hab.2)
   have HAM:=znq (show (a.map B).length=16 by rw [List.length_map];exact hab.1)
   have HBM:=znq (show (b.map B).length=16 by rw [List.length_map];exact hab.2)
   have hAl:(zV (yh k 0 (ps.take i))).length=i*32:=by
    rw [vn _ (Xz k _ _),xF,List.length_take,HNP.znr];omega
   have hn1:zV (yh k 0 (ps.take (i+1))++ps.drop (i+1))=zV (yh k 0 (ps.take i))++(wOf k i (a,b)++xOf k i (a,b))++zV (ps.drop (i+1)):=by
    rw [XE hpi,Kj,List.length_take,HNP.znr,show 0+min i np=i by omega,jc,vR]
   have he:=HE.znr.1
   rw [hd] at he
   have HE:=znq (show qK k (i+1) (plusB [sum,xOf k i (a,b)]) (ps.drop (i+1))=S∧True from ⟨he,trivial⟩)
   have hs:=HS.znr
   rw [hd,jc,show zV ((a,b)::ps.drop (i+1))=a++b++zV (ps.drop (i+1)) from rfl,← List.append_assoc] at hs
   have HN1:=znq (And.intro hn1 trivial)
   obtain ⟨A,hA⟩:∃ A,A=zV (yh k 0 (ps.take i)):=⟨_,rfl⟩
   obtain ⟨R,hR⟩:∃ R,R=zV (ps.drop (i+1)):=⟨_,rfl⟩
   rw [← hA,← hR] at hs HN1
   rw [← hA] at hAl
   have HAL:=znq hAl
   have HS:=znq (show Su w pb wr [(bw2,sum.map B,117),(bw1,(zf 16).map B,117),(bb,V,181),(pb,wj A (a++b) R tl,212)] from hs)
   clear hpi hd hab hAl hn1 he hs hA hR
   obtain ⟨i1,hi1⟩:∃ i1,i1=i+1:=⟨_,rfl⟩
   have hni:(i:Int)+1=(i1:Int):=by omega
   have hi9:i1≤1000:=by omega
   have HW:=znq (show plusB [a,eBlk k 1 i1 b]=wOf k i (a,b)∧True from ⟨by rw [hi1];rfl,trivial⟩)
   have HI1:=znq (show i1=i+1∧True from ⟨hi1,trivial⟩)
   clear hi1
   have hc0:=fun (z:zG wr.drew)=>((HS.znr.drew.later z.later).get 2 rfl).cell 0 (.slice (some ⟨pb,0,none⟩) np cp) (by rw [HVV.znr.1];rfl)
   have HNE:=znq HS.znr.ne
   have hps:=HS.znr.size
   go_wp2_with fail
   refine yn [0,1,2,3,4,5,6,7,8,9,10,11,12,13,14] [15,16,17] [19] [zH.var 18 7 117 ((zf 16).map B)] (by kernel_rfl) (by kernel_rfl) ?_
   rintro w3 rfl
   have HS:=znq HS.znr.drew
   iterate 5 refine m10 ?_
   refine zL (Blk.rangeIn (HS.znr.get 3 rfl) (i*32) 16 _ (by exact Wk HAL.znr HA.znr)) (HS.znr.get 3 rfl).lt zc HAM.znr rfl rfl rfl (fun K hK=>?_)
   go_simp;refine hK _ ?_;clear hK K
   iterate 8 refine m10 ?_
   refine zL (Blk.rangeIn (HS.znr.get 3 rfl) (i*32+16) 16 _ (by exact XG HAL.znr HA.znr HB.znr)) (HS.znr.get 3 rfl).lt zc HBM.znr rfl rfl rfl (fun K hK=>?_)
   go_simp;refine hK _ ?_;clear hK K
   clear hc0
   refine yK ⟨?_,?_,Nat.le_refl _⟩
   ·intro f hf
    simp only [List.mem_singleton] at hf
    subst hf
    exact y6 _ _ _ _ _ _ rfl rfl rfl rfl (by simp) zj rfl
   refine zC rfl rfl (fun uz wa5 hla K hK=>?_)
   go_simp
   have HS:=znq (HS.znr.later hla)
   refine (YZ kp q p 1 i1 k b _ (HK.znr.onlyB HS.znr.only n1 n2 n3) (by omega) hi9 HB.znr).mono ?_
   rintro e w5 ⟨rfl,hbel⟩
   have HS:=znq (HS.znr.later hbel)
   go_simp
   refine hK _ _ hbel ?_
   clear hK K hbel hla
   have HEL:=znq (yo k 1 i1 b)
   generalize eBlk k 1 i1 b=eb at *
   refine zC rfl rfl (fun uz wa6 hla K hK=>?_)
   refine y8 171 117 16 2 _ [a.map B,eb.map B] rfl rfl Tryz.underlying171 zF rfl (by omega) rfl (by omega) (by omega) (by simp [HA.znr,HEL.znr]) ?_
   intro w6 hb hbel
   have HS:=znq (HS.znr.later (hla.trans hbel))
   refine hK _ _ hbel ?_
   have HR:=znq (show yB 16 w6 (some ⟨wa6.heap.size,0,none⟩) [a,eb] from ⟨by simp [HA.znr,HEL.znr],by have:=hb.lies;simpa using this⟩)
   clear hK K hbel hla hb
   go_simp
   refine zC rfl rfl (fun uz wa7 hla K hK=>?_)
   go_simp
   refine (yN (some ⟨wa6.heap.size,0,none⟩) 2 2 [a,eb] _ rfl (by omega) (HR.znr.below hla)).mono ?_
   rintro e w7 ⟨rfl,hbel⟩
   have HS:=znq (HS.znr.later (hla.trans hbel))
   rw [HW.znr.1]
   go_simp
   refine hK _ _ hbel ?_
   clear hK K hbel hla HR
   have HWL:=znq (Xv k i (a,b))
   have HXX:=znq (Xw k i (a,b))
   have HX1:=znq (show plusB [b,eBlk k 0 0 (wOf k i (a,b))]=xOf k i (a,b)∧True from ⟨rfl,trivial⟩)
   generalize wOf k i (a,b)=W at *
   generalize xOf k i (a,b)=X at *
   refine yZ (fun bx8 wb8 hlb hbx8 hbn=>?_)
   go_simp
   have HS:=znq ((HS.znr.later hlb).add (show Blk wb8 bx8 ((zf 16).map B) 117 from hbn))
   clear hlb hbn
   refine zp rfl rfl (by rfl) (fun K hK=>?_)
   refine (HS.znr.get 0 rfl).opstore rfl rfl rfl zc (by simp [zd]) (by rw [List.length_map];exact HWL.znr) (zg _) (fun w8 hb ho=>hK _ _ ?_)
   clear hK K
   have HS:=znq (HS.znr.change 0 hb ho (.inl (by omega)) (fun e he=>by have:=HNE.znr e he;omega))
   clear hb ho HNE hps
   go_simp
   refine zo ?_
   have hr8:=(HS.znr.get 0 rfl).lt
   have hc0:=fun (z:zG w8.drew)=>((HS.znr.drew.later z.later).get 3 rfl).cell 0 (.slice (some ⟨pb,0,none⟩) np cp) (by rw [HVV.znr.1];rfl)
   have HWM:=znq (show (W.map B).length=16 by rw [List.length_map];exact HWL.znr)
   have HNE:=znq HS.znr.ne
   have hps:=HS.znr.size
   go_wp2_with fail
   refine yn [0,1,2,3,4,5,6,7] [8,9,10] [12] [zH.var 11 8 117 ((zf 16).map B)] (by kernel_rfl) (by kernel_rfl) ?_
   rintro w9 rfl
   have HS:=znq HS.znr.drew
   iterate 5 refine m10 ?_
   refine zL (Blk.rangeIn (HS.znr.get 4 rfl) (i*32+16) 16 _ (by exact XG HAL.znr HA.znr HB.znr)) (HS.znr.get 4 rfl).lt zc HBM.znr rfl rfl rfl (fun K hK=>?_)
   go_simp;refine hK _ ?_;clear hK K
   refine m10 ?_
   refine zL (HS.znr.get 0 rfl).range (HS.znr.get 0 rfl).lt zc HWM.znr rfl rfl rfl (fun K hK=>?_)
   go_simp;refine hK _ ?_;clear hK K
   clear hc0
   refine yK ⟨?_,?_,Nat.le_refl _⟩
   ·intro f hf
    simp only [List.mem_singleton] at hf
    subst hf
    exact y6 _ _ _ _ _ _ rfl rfl rfl rfl (by simp) zj rfl
   refine zC rfl rfl (fun uz wa10 hla K hK=>?_)
   go_simp
   have HS:=znq (HS.znr.later hla)
   refine (YZ kp q p 0 0 k W _ (HK.znr.onlyB HS.znr.only n1 n2 n3) (by omega) (by omega) HWL.znr).mono ?_
   rintro e w10 ⟨rfl,hbel⟩
   have HS:=znq (HS.znr.later hbel)
   go_simp
   refine hK _ _ hbel ?_
   clear hK K hbel hla
   have HEL2:=znq (yo k 0 0 W)
   generalize eBlk k 0 0 W=ew at *
   refine zC rfl rfl (fun uz wa11 hla K hK=>?_)
   refine y8 171 117 16 2 _ [b.map B,ew.map B] rfl rfl Tryz.underlying171 zF rfl (by omega) rfl (by omega) (by omega) (by simp [HB.znr,HEL2.znr]) ?_
   intro w11 hb hbel
   have HS:=znq (HS.znr.later (hla.trans hbel))
   refine hK _ _ hbel ?_
   have HR:=znq (show yB 16 w11 (some ⟨wa11.heap.size,0,none⟩) [b,ew] from ⟨by simp [HB.znr,HEL2.znr],by have:=hb.lies;simpa using this⟩)
   clear hK K hbel hla hb
   go_simp
   refine zC rfl rfl (fun uz wa12 hla K hK=>?_)
   go_simp
   refine (yN (some ⟨wa11.heap.size,0,none⟩) 2 2 [b,ew] _ rfl (by omega) (HR.znr.below hla)).mono ?_
   rintro e w12 ⟨rfl,hbel⟩
   have HS:=znq (HS.znr.later (hla.trans hbel))
   rw [HX1.znr.1]
   go_simp
   refine hK _ _ hbel ?_
   clear hK K hbel hla HR
   refine yZ (fun bx13 wb13 hlb hbx13 hbn=>?_)
   go_simp
   have HS:=znq ((HS.znr.later hlb).add (show Blk wb13 bx13 ((zf 16).map B) 117 from hbn))
   clear hlb hbn
   refine zp rfl rfl (by rfl) (fun K hK=>?_)
   refine (HS.znr.get 0 rfl).opstore rfl rfl rfl zc (by simp [zd]) (by rw [List.length_map];exact HXX.znr) (zg _) (fun w13 hb ho=>hK _ _ ?_)
   clear hK K
   have HS:=znq (HS.znr.change 0 hb ho (.inl (by omega)) (fun e he=>by have:=HNE.znr e he;omega))
   clear hb ho HNE hps
   go_simp
   refine zo ?_
   have HXXM:=znq (show (X.map B).length=16 by rw [List.length_map];exact HXX.znr)
   have hbp:=XD W X HWL.znr HXX.znr
   have hc0:=(HS.znr.get 4 rfl).cell 0 (.slice (some ⟨pb,0,none⟩) np cp) (by rw [HVV.znr.1];rfl)
   have hlp:=HS.znr.size
   go_wp2_with (first | (refine (HS.znr.get 1 rfl).wload rfl rfl rfl zc HWM.znr ?_) | (refine (HS.znr.get 0 rfl).wload rfl rfl rfl zc HXXM.znr ?_) | (refine xZ 212 _ _ _ rfl rfl rfl hbp ?_) | (refine (HS.znr.get 5 rfl).wstoreAt (o:=i*32) (cs:=W.map B++X.map B) rfl rfl rfl rfl vt (by simp [HWL.znr,HXX.znr]) (by have:=zcf (A:=A) (R:=R) (tl:=tl) (M:=a++b) (by simp [HA.znr,HB.znr]);rw [HAL.znr] at this;exact this) (by intro u hu;rcases List.mem_append.1 hu with hu | hu <;> exact zg _ _ hu) ?_))
   intro w14 hb14 ho14
   have hb14:Blk w14 pb (wj A (W++X) R tl) 212:=by
    rw [← zce (A:=A) (M:=a++b) (C:=W++X) (R:=R) (tl:=tl) HAL.znr (by simp [HA.znr,HB.znr,HWL.znr,HXX.znr])]
    simpa [List.append_assoc] using hb14
   have HS:=znq (show Su w pb w14 [(bx13,X.map B,117),(bx8,W.map B,117),(bw2,sum.map B,117),(bw1,(zf 16).map B,117),(bb,V,181),(pb,wj A (W++X) R tl,212)] from HS.znr.change 5 hb14 ho14 (.inr rfl) (by simp;omega))
   clear hb14 ho14 hbp hc0
   have HSL:=znq (plusB_length [sum,X])
   go_wp2_with (first | (refine (HS.znr.get 2 rfl).wload rfl rfl rfl zc HXM.znr ?_) | (refine (HS.znr.get 0 rfl).wload rfl rfl rfl zc HXXM.znr ?_) | (refine qQ 171 117 16 2 _ [sum.map B,X.map B] rfl rfl rfl Tryz.underlying171 zF rfl (by omega) rfl (by omega) (by omega) (by simp [HX.znr,HXX.znr]) ?_))
   intro w15 hb hbel
   have HS:=znq (HS.znr.later hbel)
   have HR:=znq (show yB 16 w15 (some ⟨w14.heap.size,0,none⟩) [sum,X] from ⟨by simp [HX.znr,HXX.znr],by have:=hb.lies;simpa using this⟩)
   clear hb hbel
   go_wp2_with fail
   refine (yN (some ⟨w14.heap.size,0,none⟩) 2 2 [sum,X] _ rfl (by omega) HR.znr).mono ?_
   rintro e w16 ⟨rfl,hbel⟩
   have HS:=znq (HS.znr.later hbel)
   generalize plusB [sum,X]=s2 at *
   clear hbel HR
   go_wp2_with (refine (HS.znr.get 2 rfl).wstore rfl rfl rfl rfl zc HXM.znr (by rw [List.length_map];exact HSL.znr) (zg _) ?_)
   intro w17 hb17 ho17
   have HS:=znq (show Su w pb w17 [(bx13,X.map B,117),(bx8,W.map B,117),(bw2,s2.map B,117),(bw1,(zf 16).map B,117),(bb,V,181),(pb,wj A (W++X) R tl,212)] from HS.znr.change 2 hb17 ho17 (.inl (by have:=HBB.znr;omega)) (by simp;omega))
   have HS:=znq (show Su w pb w17 [(bw2,s2.map B,117),(bw1,(zf 16).map B,117),(bb,V,181),(pb,(zV (yh k 0 (ps.take (i+1))++ps.drop (i+1))).map B++tl,212)] from by rw [HN1.znr.1];exact HS.znr.tail2)
   clear hb17 ho17
   go_wp2
   go_roundw
   case rel=>exact ⟨i+1,s2,by omega,by rw [← HI1.znr.1],HSL,HE,HS⟩
   case measure=>have:=HI1.znr.1;simp [intOf];omega
  ·obtain rfl:i=np:=by omega
   have HE:=znq (show sum=S∧True from ⟨by have:=HE.znr.1;rwa [List.drop_eq_nil_of_le (by rw [HNP.znr];exact Nat.le_refl _)] at this,trivial⟩)
   have HS:=znq (show Su w pb wr [(bw2,sum.map B,117),(bw1,(zf 16).map B,117),(bb,V,181),(pb,(zV (yh k 0 ps)).map B++tl,212)] from by
    have:=HS.znr
    rwa [List.drop_eq_nil_of_le (by rw [HNP.znr];exact Nat.le_refl _),List.take_of_length_le (by rw [HNP.znr];exact Nat.le_refl _),List.append_nil] at this)
   go_wp2_with (first | (refine (HS.znr.get 0 rfl).wload rfl rfl rfl zc HXM.znr ?_) | (refine (HS.znr.get 1 rfl).wstore rfl rfl rfl rfl zc (by rw [List.length_map];exact zd 16) HXM.znr (zg _) ?_))
   intro w6 hb6 ho6
   have HS:=znq (HS.znr.change 1 hb6 ho6 (.inl (by have:=HBB.znr;omega)) (by simp;omega))
   have HP:=znq (HS.znr.get 3 rfl)
   go_wp2
   refine hb6.result rfl rfl rfl zc HXM.znr ⟨by rw [HE.znr.1],HP.znr,HS.znr.only⟩
end Go.Proofs.YtjaioajjfiaheaaGreatDoor
namespace Go
open Go.RowKit
section
variable {P:Program} {ops:Array Oper} {Q:Exit→Act→World→Prop} {md:Region.Mode}
def Yt:List Nat→List (List Nat)
 | []=>[[]]
 | i::r=>Yt r++(Yt r).map (i::·)
theorem XH (D:Nat→Bool):∀ (M:List Nat),M.filter D∈Yt M
 | []=>by simp [Yt]
 | i::r=>by
  have ih:=XH D r
  by_cases h:D i=true
  ·rw [List.filter_cons_of_pos h]
   exact List.mem_append_right _ (List.mem_map.2 ⟨_,ih,rfl⟩)
  ·rw [List.filter_cons_of_neg h]
   exact List.mem_append_left _ ih
def yE (need:List (Nat×List Nat)) (k:Nat):List Nat:=((need.find? fun p=>p.1==k).map (·.2)).getD []
def Region.checkI (md:Region.Mode) (ops:Array Oper) (M:List Nat) (need:List (Nat×List Nat)) (listed:Array Bool):Bool :=
 (Yt M).all fun S=>(S==M || !(S.all fun k=>(yE need k).all fun d=>S.contains d)) || (!(Region.ready md ops (Region.plus listed S)).isEmpty && (Region.ready md ops (Region.plus listed S)).all fun k=>M.contains k && !S.contains k && (yE need k).all fun d=>S.contains d)
theorem Wl (listed:Array Bool) (M:List Nat) (D:Nat→Bool) (k:Nat) (hk:k∈M):Region.plus listed (M.filter fun j=>D j || j==k)=(Region.plus listed (M.filter D)).setIfInBounds k true:=by
 apply Array.ext_getElem?
 intro j
 rw [Zz,Array.getElem?_setIfInBounds]
 by_cases e:k=j
 ·subst e
  rw [if_pos rfl]
  have hc:(M.filter fun j=>D j || j==k).contains k=true:=by simp [hk]
  rw [hc]
  by_cases hb:k < listed.size
  ·have h2:k < (Region.plus listed (M.filter D)).size:=by
    have:=Zz (M.filter D) listed k
    rw [Array.getElem?_eq_getElem hb] at this
    exact (Array.getElem?_eq_some_iff.1 this).1
   rw [if_pos h2,Array.getElem?_eq_getElem hb]
   simp
  ·have h2:¬ k < (Region.plus listed (M.filter D)).size:=by
    intro h2
    have:=Zz (M.filter D) listed k
    rw [show listed[k]? = none from Array.getElem?_eq_none (by omega),Array.getElem?_eq_getElem h2] at this
    cases this
   rw [if_neg h2,Array.getElem?_eq_none (by omega)]
   rfl
 ·rw [if_neg e,Zz]
  have hc:(M.filter fun j=>D j || j==k).contains j=(M.filter D).contains j:=by
   rw [Bool.eq_iff_iff]
   simp only [List.contains_iff_mem,List.mem_filter,Bool.or_eq_true,beq_iff_eq]
   constructor
   ·rintro ⟨h1,h2 | h2⟩
    ·exact ⟨h1,h2⟩
    ·exact absurd h2.symm e
   ·rintro ⟨h1,h2⟩
    exact ⟨h1,.inl h2⟩
  rw [hc]
theorem Yu (M:List Nat) (need:List (Nat×List Nat)) (I:(Nat→Bool)→Act→World→Prop) (listed:Array Bool) (R:Nat) (hc:Region.checkI md ops M need listed=true)
  (hstep:∀ D a w k,k∈M→D k=false→(∀ d∈yE need k,D d=true)→I D a w→wpOp P ops Q k (fun a' w'=>((ops[k]?).map Oper.kindR≠some 2→zW w w')∧I (fun j=>D j || j==k) a' w') a w)
  (hend:∀ a w fuel,R≤fuel→I (fun j=>M.contains j) a w→qJ P md ops Q fuel (Region.plus listed M) a w) :
  ∀ (n:Nat) (D:Nat→Bool) (a:Act) (w:World) (fuel:Nat),(M.filter fun j=>!D j).length≤n→(∀ j,D j=true→j∈M)→(∀ j,D j=true→∀ d∈yE need j,D d=true)→I D a w→n+R≤fuel→qJ P md ops Q fuel (Region.plus listed (M.filter D)) a w
 | 0,D,a,w,fuel,hn,hD,hcl,hI,hf=>by
  have hall:∀ j∈M,D j=true:=by
   intro j hj
   have h0:=List.eq_nil_of_length_eq_zero (Nat.le_zero.1 hn)
   rw [List.filter_eq_nil_iff] at h0
   have:=h0 j hj
   simpa using this
  have e1:M.filter D=M:=List.filter_eq_self.2 hall
  have e2:D=fun j=>M.contains j:=by
   funext j
   rw [Bool.eq_iff_iff,List.contains_iff_mem]
   exact ⟨hD j,hall j⟩
  rw [e1]
  exact hend a w fuel (by omega) (e2 ▸ hI)
 | n+1,D,a,w,fuel,hn,hD,hcl,hI,hf=>by
  by_cases h0:(M.filter fun j=>!D j).length=0
  ·exact Yu M need I listed R hc hstep hend 0 D a w fuel (by omega) hD hcl hI (by omega)
  obtain ⟨f,rfl⟩:∃ f,fuel=f+1:=⟨fuel - 1,by omega⟩
  unfold Region.checkI at hc
  rw [List.all_eq_true] at hc
  have hS:=hc _ (XH D M)
  rw [Bool.or_eq_true,Bool.or_eq_true] at hS
  rcases hS with (hS | hS) | hS
  ·exfalso
   have e:M.filter D=M:=by simpa using hS
   have hall:=List.filter_eq_self.1 e
   have h1:M.filter (fun j=>!D j)=[]:=by
    rw [List.filter_eq_nil_iff]
    intro j hj
    simp [hall j hj]
   exact h0 (by rw [h1];rfl)
  ·exfalso
   have:((M.filter D).all fun k=>(yE need k).all fun d=>(M.filter D).contains d)=true:=by
    rw [List.all_eq_true]
    intro k hk
    rw [List.all_eq_true]
    intro d hd
    have hk':=(List.mem_filter.1 hk).2
    have hd':=hcl k hk' d hd
    rw [List.contains_iff_mem]
    exact List.mem_filter.2 ⟨hD d hd',hd'⟩
   rw [this] at hS
   cases hS
  ·rw [Bool.and_eq_true,List.all_eq_true] at hS
   obtain ⟨h1,h2⟩:=hS
   refine ⟨fun h=>(by rw [h] at h1;simp at h1),fun k hk=>?_⟩
   have hk2:=h2 k hk
   simp only [Bool.and_eq_true,List.contains_iff_mem,List.all_eq_true,Bool.not_eq_true'] at hk2
   obtain ⟨⟨hkM,hkS⟩,hneed⟩:=hk2
   have hDk:D k=false:=by
    cases hd:D k with
    | false=>rfl
    | true =>
     rw [← List.contains_iff_mem] at hkM
     have:(M.filter D).contains k=true:=by simp [hd];simpa using hkM
     rw [this] at hkS;cases hkS
   refine wpOp_mono (fun a' w' h'=>⟨h'.1,?_⟩) (hstep D a w k hkM hDk (fun d hd=>by have:=hneed d hd;rw [List.mem_filter] at this;exact this.2) hI)
   rw [← Wl listed M D k hkM]
   refine Yu M need I listed R (by unfold Region.checkI;rw [List.all_eq_true];exact hc) hstep hend n _ a' w' f ?_ ?_ ?_ h'.2 (by omega)
   ·-- one less
    have key:∀ (l:List Nat),k∈l→(l.filter fun j=>!(D j || j==k)).length < (l.filter fun j=>!D j).length:=by
     intro l
     induction l with
     | nil=>intro h;cases h
     | cons x r ih =>
      intro hm
      have hle:∀ (l:List Nat),(l.filter fun j=>!(D j || j==k)).length≤(l.filter fun j=>!D j).length:=by
       intro l
       induction l with
       | nil=>simp
       | cons y s ih2 =>
        by_cases hy:D y=true
        ·rw [List.filter_cons_of_neg (by simp [hy]),List.filter_cons_of_neg (by simp [hy])];exact ih2
        ·by_cases hyk:y=k
         ·rw [List.filter_cons_of_neg (by simp [hyk]),List.filter_cons_of_pos (by simp [hy])];simp only [List.length_cons];omega
         ·rw [List.filter_cons_of_pos (by simp [hy,hyk]),List.filter_cons_of_pos (by simp [hy])];simp only [List.length_cons];omega
      by_cases hx:x=k
      ·subst hx
       rw [List.filter_cons_of_neg (by simp),List.filter_cons_of_pos (by simp [hDk]),List.length_cons]
       exact Nat.lt_succ_of_le (hle r)
      ·have hr:k∈r:=by
        rcases List.mem_cons.1 hm with h | h
        ·exact absurd h.symm hx
        ·exact h
       have:=ih hr
       by_cases hdx:D x=true
       ·rw [List.filter_cons_of_neg (by simp [hdx]),List.filter_cons_of_neg (by simp [hdx])];exact this
       ·rw [List.filter_cons_of_pos (by simp [hdx,hx]),List.filter_cons_of_pos (by simp [hdx])];simp only [List.length_cons];omega
    have:=key M hkM
    omega
   ·intro j hj
    simp only [Bool.or_eq_true,beq_iff_eq] at hj
    rcases hj with hj | rfl
    ·exact hD j hj
    ·exact hkM
   ·intro j hj d hd
    simp only [Bool.or_eq_true,beq_iff_eq] at hj ⊢
    left
    rcases hj with hj | rfl
    ·exact hcl j hj d hd
    ·have:=hneed d hd
     rw [List.mem_filter] at this
     exact this.2
theorem zmj {k:Nat} {o:Oper} {a:Act} {w:World} {K:Act→World→Prop} (ho:ops[k]? = some o) (hg:o.guard=none) (h:o.wp P a w K Q):wpOp P ops Q k K a w:=by
 unfold wpOp
 simp [ho,Region.wanted,hg]
 exact .inl h
theorem yc {k:Nat} {o:Oper} {a:Act} {w:World} {G:Act→World→Prop} (ho:ops[k]? = some o) (hg:o.guard=none) (h:∀ K:Act→World→Prop,(∀ a' w',G a' w'→K a' w')→o.wp P a w K Q):wpOp P ops Q k G a w :=
 zmj ho hg (h G fun _ _ h=>h)
theorem zcg {id:Nat} {l:List Oper} {a:Act} {w:World} (s0 M s2:List Nat) (need:List (Nat×List Nat)) (I:(Nat→Bool)→Act→World→Prop) (hm:P.follows .mixedOrders=true)
  (hB:(Region.noSelect l.toArray && (s0.length+(M.length+s2.length)==l.toArray.size) && Region.check0 .any l.toArray s0 (Array.replicate l.toArray.size false) && Region.checkI .any l.toArray M need (s0.foldl (fun l i=>l.setIfInBounds i true) (Array.replicate l.toArray.size false)) &&
   Region.checkR .any l.toArray s2 (Region.plus (s0.foldl (fun l i=>l.setIfInBounds i true) (Array.replicate l.toArray.size false)) M))=true)
  (h:∀ w',w'=w.drew→zO P l.toArray (fun a w1=>I (fun _=>false) a w1) s0 a w')
  (hstep:∀ D a w k,k∈M→D k=false→(∀ d∈yE need k,D d=true)→I D a w→wpOp P l.toArray (NoPanic Q) k (fun a' w'=>((l.toArray[k]?).map Oper.kindR≠some 2→zW w w')∧I (fun j=>D j || j==k) a' w') a w)
  (hend:∀ a w,I (fun j=>M.contains j) a w→zE P l.toArray (NoPanic Q) s2 a w):(Code.region id l.toArray true).wp P Q a w:=by
 simp only [Bool.and_eq_true,beq_iff_eq] at hB
 obtain ⟨⟨⟨⟨hs,hl⟩,h0⟩,hI⟩,hR⟩:=hB
 refine wp_region_noPanic (wp_region_any hm (vK _ _ _ _ ?_))
 suffices key:qJ P .any l.toArray (NoPanic Q) (s0.length+(M.length+s2.length)) (Array.replicate l.toArray.size false) a w.drew by
  rw [hl] at key;exact key
 refine Yf hs (fun c a w hq=>hq) _ _ s0 _ a w.drew h0 (h _ rfl) ?_
 intro a1 w1 h1
 have:=Yu M need I _ s2.length hI hstep (fun a w fuel hf hk=>Ye _ _ _ _ _ hf (xu hs (fun c a w hq=>hq) s2 _ a w hR (hend a w hk))) M.length (fun _=>false) a1 w1 (M.length+s2.length) (List.length_filter_le _ _) (by simp) (by simp) h1 (Nat.le_refl _)
 rw [show M.filter (fun _=>false)=[] from List.filter_eq_nil_iff.2 (by simp)] at this
 exact this
end
end Go

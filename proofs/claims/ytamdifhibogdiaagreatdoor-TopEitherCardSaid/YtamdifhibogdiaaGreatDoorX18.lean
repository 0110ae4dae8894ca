/-
  Texts of this claim, one behind the other.
-/
import Derived.Test.YtamdifhibogdiaaGreatDoorX1
import Derived.Test.YtamdifhibogdiaaGreatDoorX16
import Derived.Test.YtamdifhibogdiaaGreatDoorX17
import Derived.Test.YtamdifhibogdiaaGreatDoorX4
import Derived.Test.YtamdifhibogdiaaGreatDoorX6
import Derived.Test.YtamdifhibogdiaaGreatDoorX3
import Derived.Laws.StructEq
import Derived.Lib.Hide
set_option linter.unusedVariables false
set_option linter.unusedSimpArgs false
set_option maxHeartbeats 16000000
set_option maxRecDepth 100000
open List renaming all_cons→mf,ext_getElem?→uA,getD→bT,getElem?_eq_getElem→gD,getElem?_eq_none→qc,getElem?_set→uU,length_drop→XQ,length_map→yf,length_set→Vo,mem_of_getElem?→xU,range'→mD,replicate→wh
open Nat renaming lt_or_ge→bg
namespace Go.Proofs.YtamdifhibogdiaaGreatDoor
open RowKit Mem Ops Cells Oct Trn Blake pI
attribute [local irreducible] zE zN zO zM yJ
theorem zJ:Row Tryz.prog 419 5:=⟨by kernel_rfl,by kernel_rfl⟩
theorem zP:Row Tryz.prog 410 5:=⟨by kernel_rfl,by kernel_rfl⟩
theorem xe:(Tryz.prog.info? 419).map (·.zero)=some (some (.agg ((wh 5 (0:UInt64)).map L).toArray)):=by kernel_rfl
theorem xr:(Tryz.prog.info? 410).map (·.zero)=some (some (.agg ((wh 5 (0:UInt32)).map W).toArray)):=by kernel_rfl
theorem qd (l:List UInt64):∀ v∈l.map L,v.oneCell'=true:=by
 intro v hv
 obtain ⟨x,_,rfl⟩:=List.mem_map.1 hv
 rfl
theorem ze5 (ws:List UInt64) (w:World) (hl:ws.length=5) :
  Calls Tryz.prog 329 #[.agg (ws.map L).toArray] w fun e w'=>e=.returned (.agg ((carried ws).map L).toArray)∧Below w.heap.size w w':=by
 have HL:=znq (show ws.length=5∧True from ⟨hl,trivial⟩)
 have HS:=znq (St.start w)
 clear hl
 go_enter Tryz.func329,Tryz.ntmps329
 go_wp2_with (refine zh 419 _ (ws.map L) _ rfl rfl rfl rfl ?_)
 intro w1 hb hbel;have HS:=znq (HS.znr.push hb hbel);have hlt1:=hb.lt;clear hb hbel
 go_wp2_with (refine ze 419 ((wh 5 (0:UInt64)).map L) _ rfl rfl xe rfl ?_)
 intro w2 hb hbel;have HS:=znq (HS.znr.push hb hbel);have hlt2:=hb.lt;clear hb hbel
 generalize hbb:w.heap.size=bb at *
 generalize w1.heap.size=b1 at *
 have HBB:=znq hbb
 clear hbb
 go_wp2
 go_loopw [3,5] (fun kv c wr=>∃ (i:Nat) (v:List UInt64) (k:UInt64),i≤5∧c=.int .i64 i∧kv=L k∧Hid (q6 ws i=(v,k)∧True)∧Hid (St w bb wr [(b1,(wh 5 (0:UInt64)).map L,419),(bb,v.map L,419)])) (fun _ c _=>5 - (intOf c).toNat)
 case atStart=>exact ⟨0,ws,0,by omega,rfl,rfl,znq ⟨rfl,trivial⟩,HS⟩
 case round =>
  clear HS
  obtain ⟨i,v,k,hi,rfl,rfl,HP,HS⟩:=hrel
  have HVL:=znq (show v.length=5∧True from ⟨by have:=vT ws i;rw [HP.znr.1] at this;rw [this];exact HL.znr.1,trivial⟩)
  by_cases hlt:i < 5
  ·obtain ⟨x,hx⟩:∃ x,x=zy (at64 v i) k:=⟨_,rfl⟩
   have HX:=znq (show zy (at64 v i) k=x∧True from ⟨hx.symm,trivial⟩)
   have HN:=znq (show q6 ws (i+1)=(v.set i (xk x 67108863),yp x 26)∧True from ⟨by rw [q6,HP.znr.1,hx],trivial⟩)
   clear hx
   have hc:=(HS.znr.get 1 rfl).cell i _ (yz (z9 (l:=v) (i:=i) (by rw [HVL.znr.1];exact hlt)))
   go_wp2_with (refine (HS.znr.get 1 rfl).ry (i:=i) (v:=L (zy (at64 v i) k)) rfl rfl rfl rfl zR rfl rfl (by rw [yf,HVL.znr.1];exact hlt) ?_)
   intro w3 hb3 ho3
   rw [HX.znr.1] at hb3
   simp only [y7] at hb3
   have HS:=znq (HS.znr.change 1 hb3 ho3 (by omega) (by simp;omega))
   clear hb3 ho3 hc
   rw [HX.znr.1]
   have hc:=(HS.znr.get 1 rfl).cell i (L x) (yz (by rw [uU,if_pos rfl,if_pos (by rw [HVL.znr.1];exact hlt)]))
   go_wp2_with (refine (HS.znr.get 1 rfl).ry (i:=i) (v:=L (xk x 67108863)) rfl rfl rfl rfl zR rfl rfl (by rw [yf,Vo,HVL.znr.1];exact hlt) ?_)
   intro w4 hb4 ho4
   simp only [y7] at hb4
   have HS:=znq (HS.znr.change 1 hb4 ho4 (by omega) (by simp;omega))
   clear hb4 ho4 hc
   go_wp2
   go_roundw
   case rel=>exact ⟨i+1,_,_,by omega,by go_num,rfl,HN,HS⟩
   case measure=>simp [intOf];omega
  ·obtain rfl:i=5:=by omega
   obtain ⟨y,hy⟩:∃ y,y=zy (at64 v 0) (xP 5 k):=⟨_,rfl⟩
   have HC:=znq (show v.set 0 y=carried ws∧True from ⟨by unfold carried;rw [HP.znr.1,hy],trivial⟩)
   have HCL:=znq (show ((carried ws).map L).length=5 by rw [yf,vU];exact HL.znr.1)
   have HY:=znq (show zy (at64 v 0) (xP 5 k)=y∧True from ⟨hy.symm,trivial⟩)
   clear hy
   have hc:=(HS.znr.get 1 rfl).cell 0 _ (yz (z9 (l:=v) (i:=0) (by rw [HVL.znr.1];omega)))
   go_wp2_with (refine (HS.znr.get 1 rfl).ry (i:=0) (v:=L (zy (at64 v 0) (xP 5 k))) rfl rfl rfl rfl zR rfl rfl (by rw [yf,HVL.znr.1];omega) ?_)
   intro w3 hb3 ho3
   rw [HY.znr.1] at hb3
   simp only [y7] at hb3
   rw [HC.znr.1] at hb3
   have HS:=znq (HS.znr.change 1 hb3 ho3 (by omega) (by simp;omega))
   clear hb3 ho3 hc
   go_wp2_with (first | (refine (HS.znr.get 1 rfl).mP rfl rfl rfl zJ HCL.znr ?_) | (refine (HS.znr.get 0 rfl).mM rfl rfl rfl (cs:=(carried ws).map L) rfl zJ rfl HCL.znr (qd _) ?_))
   intro w5 hb5 ho5
   have HE:=znq (zk HS.znr.bel ho5 (by omega))
   clear ho5
   go_wp2
   refine hb5.result rfl rfl rfl zJ HCL.znr ⟨rfl,?_⟩
   rw [HBB.znr]
   exact HE.znr
theorem YF (n:Nat) (w:World):Calls Tryz.prog 330 #[.agg ((numOf n).map W).toArray] w fun e w'=>e=.returned (.agg ((xq (numOf n)).map L).toArray)∧Below w.heap.size w w':=by
 obtain ⟨ls,hls⟩:∃ ls,ls=numOf n:=⟨_,rfl⟩
 have HL:=znq (show ls.length=5∧True from ⟨by rw [hls];rfl,trivial⟩)
 rw [← hls]
 clear hls
 have HS:=znq (St.start w)
 go_enter Tryz.func330,Tryz.ntmps330
 go_wp2_with (refine zh 410 _ (ls.map W) _ rfl rfl rfl rfl ?_)
 intro w1 hb hbel;have HS:=znq (HS.znr.push hb hbel);have hlt1:=hb.lt;clear hb hbel
 go_wp2_with (refine ze 419 ((wh 5 (0:UInt64)).map L) _ rfl rfl xe rfl ?_)
 intro w2 hb hbel;have HS:=znq (HS.znr.push hb hbel);have hlt2:=hb.lt;clear hb hbel
 go_wp2_with (refine ze 419 ((wh 5 (0:UInt64)).map L) _ rfl rfl xe rfl ?_)
 intro w3 hb hbel;have HS:=znq (HS.znr.push hb hbel);have hlt3:=hb.lt;clear hb hbel
 generalize hbb:w.heap.size=bb at *
 generalize w1.heap.size=b1 at *
 generalize w2.heap.size=b2 at *
 have HBB:=znq hbb
 clear hbb
 go_wp2
 go_loopw [5] (fun c wr=>∃ (i:Nat) (v:List UInt64),i≤5∧c=.int .i64 i∧Hid (v.length=5∧∀ j,j < i→v[j]? = some (yI (yR ls j)))∧Hid (St w bb wr [(b2,v.map L,419),(b1,(wh 5 (0:UInt64)).map L,419),(bb,ls.map W,410)])) (fun c _=>5 - (intOf c).toNat)
 case atStart=>exact ⟨0,wh 5 0,by omega,rfl,znq ⟨rfl,fun j hj=>by omega⟩,HS⟩
 case round =>
  clear HS
  obtain ⟨i,v,hi,rfl,HF,HS⟩:=hrel
  by_cases hlt:i < 5
  ·have hc:=(HS.znr.get 2 rfl).cell i _ (kz (qO (l:=ls) (i:=i) (by rw [HL.znr.1];exact hlt)))
   go_wp2_with (refine (HS.znr.get 0 rfl).ry (i:=i) (v:=L (yI (yR ls i))) rfl rfl rfl rfl zR rfl rfl (by rw [yf,HF.znr.1];exact hlt) ?_)
   intro w4 hb4 ho4
   rw [y7] at hb4
   have HS:=znq (HS.znr.change 0 hb4 ho4 (by omega) (by simp;omega))
   have HF:=znq (show (v.set i (yI (yR ls i))).length=5∧∀ j,j < i+1→(v.set i (yI (yR ls i)))[j]? = some (yI (yR ls j)) from ⟨by rw [Vo];exact HF.znr.1,fun j hj=>by
    rw [uU]
    by_cases e:i=j
    ·subst e;rw [if_pos rfl,if_pos (by rw [HF.znr.1];exact hlt)]
    ·rw [if_neg e];exact HF.znr.2 j (by omega)⟩)
   clear hb4 ho4 hc
   go_wp2
   go_roundw
   case rel=>exact ⟨i+1,_,by omega,by go_num,HF,HS⟩
   case measure=>simp [intOf];omega
  ·obtain rfl:i=5:=by omega
   have HV:=znq (show v=xq ls∧True from ⟨by
    apply uA
    intro j
    rcases bg j 5 with h | h
    ·rw [HF.znr.2 j h]
     match j,h with
     | 0,_=>rfl
     | 1,_=>rfl
     | 2,_=>rfl
     | 3,_=>rfl
     | 4,_=>rfl
    ·rw [qc (by rw [HF.znr.1];exact h),qc (by show 5≤j;exact h)],trivial⟩)
   rw [HV.znr.1] at HS
   go_wp2_with (first | (refine (HS.znr.get 0 rfl).mP rfl rfl rfl zJ rfl ?_) | (refine (HS.znr.get 1 rfl).mM rfl rfl rfl (cs:=(xq ls).map L) rfl zJ rfl rfl (qd _) ?_))
   intro w5 hb5 ho5
   have HE:=znq (zk HS.znr.bel ho5 (by omega))
   clear ho5
   go_wp2
   refine hb5.result rfl rfl rfl zJ rfl ⟨rfl,?_⟩
   rw [HBB.znr]
   exact HE.znr
end Go.Proofs.YtamdifhibogdiaaGreatDoor
namespace Go.pI
open Ops RowKit Cells
theorem J9:∀ (xs ys:List UInt64),xs.length=ys.length→((List.range xs.length).all fun i=>xs.getD i 0==ys.getD i 0)=(xs==ys)
 | [],[],_=>rfl
 | x::xs,y::ys,h=>by
  have ih:=J9 xs ys (by simpa using h)
  rw [List.length_cons,List.range_succ_eq_map,mf,List.all_map]
  simp only [List.getD_cons_zero,Function.comp_def,List.getD_cons_succ,ih]
  simp [List.cons_beq_cons]
 | [],_::_,h=>by simp at h
 | _::_,[],h=>by simp at h
section
variable {P:Program} (w:World)
theorem wG (d:Nat) (t e:TypeId) (n:Nat) (ht:P.underlying t=some (.array n e)) (he:P.underlying e=some (.int .u64)) (hsz:∀ w,(sizeOf e).run P w=.ok 1 w)
  (xs ys:List UInt64) (hx:xs.length=n) (hy:ys.length=n) :
  (Op.equalIn (d+2) t (.agg (xs.map L).toArray) (.agg (ys.map L).toArray)).run P w=.ok (xs==ys) w:=by
 rw [← J9 xs ys (hx.trans hy.symm),hx,List.range_eq_range',Op.equalIn]
 simp only [Sem.run_bind,run_underlying ht,Result.andThen_ok,hsz,Std.Legacy.Range.forIn_eq_forIn_range',Std.Legacy.Range.size,Nat.sub_zero,Nat.add_sub_cancel,Nat.div_one]
 have hl:∀ i∈mD 0 n 1,i < n:=fun i hi=>by simpa using (List.mem_range'_1.1 hi).2
 generalize mD 0 n 1=l at hl ⊢
 induction l with
 | nil=>simp
 | cons i l ih =>
  have hi:i < n:=hl i (by simp)
  have px:(part e (xs.map L).toArray (i*1)).run P w=.ok (L (xs.getD i 0)) w:=by
   simp [part,isAgg,run_underlying he,bT,gD (show i < xs.length by omega)]
  have py:(part e (ys.map L).toArray (i*1)).run P w=.ok (L (ys.getD i 0)) w:=by
   simp [part,isAgg,run_underlying he,bT,gD (show i < ys.length by omega)]
  have pe:(Op.equalIn (d+1) e (L (xs.getD i 0)) (L (ys.getD i 0))).run P w=.ok (xs.getD i 0==ys.getD i 0) w:=by
   rw [L,L,run_equalIn_int w d e .u64 .u64 _ _ he]
   congr 1
   rw [Bool.eq_iff_iff]
   simp [← UInt64.toNat_inj]
   omega
  simp only [List.forIn_cons,Sem.run_bind,px,py,pe,Result.andThen_ok,mf]
  cases hb:(xs.getD i 0==ys.getD i 0)
  ·simp
  ·simp only [Bool.not_true,Bool.false_eq_true,if_false,Sem.run_pure,Result.andThen_ok,Bool.true_and]
   exact ih fun j hj=>hl j (by simp [hj])
theorem VM (t e:TypeId) (n:Nat) (ht:P.underlying t=some (.array n e)) (he:P.underlying e=some (.int .u64)) (hsz:∀ w,(sizeOf e).run P w=.ok 1 w)
  (xs ys:List UInt64) (hx:xs.length=n) (hy:ys.length=n) :
  (binOp .eql t (.agg (xs.map L).toArray) (.agg (ys.map L).toArray)).run P w=.ok (.bool (xs==ys)) w:=by
 rw [run_eql_struct,wG w 9998 t e n ht he hsz xs ys hx hy]
 rfl
theorem VN (t e:TypeId) (n:Nat) (ht:P.underlying t=some (.array n e)) (he:P.underlying e=some (.int .u64)) (hsz:∀ w,(sizeOf e).run P w=.ok 1 w)
  (xs ys:List UInt64) (hx:xs.length=n) (hy:ys.length=n) :
  (binOp .neq t (.agg (xs.map L).toArray) (.agg (ys.map L).toArray)).run P w=.ok (.bool (!(xs==ys))) w:=by
 rw [run_neq_struct,wG w 9998 t e n ht he hsz xs ys hx hy]
 rfl
end
def Va (w:World) (b:Nat):List UInt64:=match w.heap[b]? with
 | some (.cells cs _ _)=>cs.toList.map fun v=>match v with
  | .int _ n=>UInt64.ofNat n.toNat
  | _=>0
 | _=>[]
theorem Vb {w:World} {b:Nat} {ws:List UInt64} {ty:TypeId} (h:Blk w b (ws.map L) ty):Va w b=ws:=by
 unfold Blk at h
 unfold Va
 rw [h]
 simp only [List.map_map]
 conv=>rhs;rw [← List.map_id ws]
 apply List.map_congr_left
 intro x _
 simp
end Go.pI
namespace Go.Proofs.YtamdifhibogdiaaGreatDoor
open RowKit Mem Ops Cells Oct Trn Blake pI
attribute [local irreducible] zE zN zO zM yJ
abbrev WC (ws0:List UInt64) (bb b1:Nat) (us:Nat→Value):Act:={ tmps:=#[.agg (ws0.map L).toArray,.pointer (some ⟨bb,0,none⟩),.pointer (some ⟨b1,0,none⟩),us 3,us 4,us 5,us 6,us 7,us 8,us 9,us 10,us 11,us 12,us 13,us 14,us 15,us 16,us 17,us 18,us 19,us 20,us 21,us 22,us 23,us 24,us 25,us 26,us 27,us 28,us 29,us 30,us 31,us 32,us 33,us 34,us 35,us 36],defers:=[] }
def Vc (ws0:List UInt64) (bb b1:Nat) (w0:World) (x:Act) (wr:World):Prop :=
 ∃ (us:Nat→Value) (ws:List UInt64),x=WC ws0 bb b1 us∧Hid (Zq ws∧xA ws % PP=xA ws0 % PP)∧Hid (St w0 bb wr [(b1,(wh 5 (0:UInt32)).map W,410),(bb,ws.map L,419)])
theorem Vc.intro {ws0:List UInt64} {bb b1:Nat} {w0 wr:World} {x:Act} (ws:List UInt64) (hx:x=WC ws0 bb b1 (fun i=>x.tmps.getD i undef)) (h1:Zq ws∧xA ws % PP=xA ws0 % PP) (h2:St w0 bb wr [(b1,(wh 5 (0:UInt32)).map W,410),(bb,ws.map L,419)]):Vc ws0 bb b1 w0 x wr :=
 ⟨_,ws,hx,h1,h2⟩
theorem Vd (w:World):(sizeOf 60).run Tryz.prog w=.ok 1 w:=by
 obtain ⟨x,hx⟩:∃ x,Tryz.prog.info? 60=some x:=by
  have:=zR
  cases h:Tryz.prog.info? 60 with
  | none=>rw [h] at this;cases this
  | some x=>exact ⟨x,rfl⟩
 have h:=zR
 rw [hx] at h
 have h1:x.size=1:=by simpa using h
 simp [sizeOf,typeInfo,hx,h1]
theorem XN:Row Tryz.prog 415 4:=⟨by kernel_rfl,by kernel_rfl⟩
theorem zgQ (x:UInt64):Tryz.prog.built 419 [(0,L x)]=some (([x,0,0,0,0]:List UInt64).map L).toArray:=by kernel_rfl
theorem run_arrayAt (w:World) (a:Option Addr) (n c:Nat) (h:4≤n):(Instr.arrayAt 415 (.slice a n c)).run Tryz.prog w=.ok (.pointer a) w:=by
 simp [Instr.arrayAt,run_underlying Tryz.underlying415,show ¬ n < 4 by omega]
theorem KQ (ws0:List UInt64) (w:World) (hl:Zq ws0) :
  Calls Tryz.prog 324 #[.agg (ws0.map L).toArray] w fun e w'=>e=.returned (.agg ((numOf (xA ws0 % PP)).map W).toArray)∧Below w.heap.size w w':=by
 have HL:=znq hl
 have HS:=znq (St.start w)
 clear hl
 go_enter Tryz.func324,Tryz.ntmps324
 go_wp2_with (refine zh 419 _ (ws0.map L) _ rfl rfl rfl rfl ?_)
 intro w1 hb hbel;have HS:=znq (HS.znr.push hb hbel);have hlt1:=hb.lt;clear hb hbel
 go_wp2_with (refine ze 410 ((wh 5 (0:UInt32)).map W) _ rfl rfl xr rfl ?_)
 intro w2 hb hbel;have HS:=znq (HS.znr.push hb hbel);have hlt2:=hb.lt;clear hb hbel
 generalize hbb:w.heap.size=bb at *
 generalize w1.heap.size=b1 at *
 have HBB:=znq hbb
 clear hbb
 go_wp2_with fail
 refine yd 0 (Vc ws0 bb b1 w) (fun _ wr=>meas (Va wr bb)) rfl ?_ ?_
 ·simp only [q9]
  exact Vc.intro ws0 rfl ⟨HL.znr,rfl⟩ HS.znr
 ·clear HS
  rintro x wr ⟨us,ws,rfl,HW,HS⟩
  have HWL:=znq (show (ws.map L).length=5 by rw [yf];exact HW.znr.1.1)
  have HCL:=znq (show ((carried ws).map L).length=5 by rw [yf,vU];exact HW.znr.1.1)
  have HM:=znq (show Va wr bb=ws∧True from ⟨Vb (HS.znr.get 1 rfl),trivial⟩)
  rw [HM.znr.1]
  go_wp2_with (refine (HS.znr.get 1 rfl).mP rfl rfl rfl zJ HWL.znr ?_)
  refine (ze5 ws _ HW.znr.1.1).mono ?_
  rintro e w3 ⟨rfl,hbel⟩
  have HS:=znq (HS.znr.later hbel)
  clear hbel
  have h13:b1 < w3.heap.size:=HS.znr.ne _ (xU (i:=0) rfl)
  go_wp2_with (refine ze 419 ((wh 5 (0:UInt64)).map L) _ rfl rfl xe rfl ?_)
  intro w4 hb hbel;have HS:=znq (HS.znr.push hb hbel);have zaE:=hb.lt;clear hb hbel
  generalize w3.heap.size=b3 at *
  have hneq:=VN (P:=Tryz.prog) (t:=419) (e:=60) (n:=5) (ht:=Tryz.underlying419) (he:=Tryz.underlying60) (hsz:=Vd) (xs:=carried ws) (ys:=ws) (hx:=by rw [vU];exact HW.znr.1.1) (hy:=HW.znr.1.1)
  by_cases hq:carried ws=ws
  ·have HT:=znq (QS HW.znr.1 hq)
   have HEQ:=znq (show carried ws=ws∧True from ⟨hq,trivial⟩)
   rw [show (carried ws==ws)=true from by simpa using hq,Bool.not_true] at hneq
   clear hq
   go_wp2_with (first | (refine (HS.znr.get 2 rfl).mP rfl rfl rfl zJ HWL.znr ?_) | (refine (HS.znr.get 0 rfl).mP rfl rfl rfl zJ HCL.znr ?_) | (refine (HS.znr.get 0 rfl).mM rfl rfl rfl (cs:=(carried ws).map L) rfl zJ rfl HCL.znr (qd _) ?_))
   intro w5 hb5 ho5
   have HS:=znq (HS.znr.change 0 hb5 ho5 (by omega) (by simp;omega))
   clear hb5 ho5
   obtain ⟨tl,htl⟩:∃ tl,tl=ws.drop 1:=⟨_,rfl⟩
   have HTL:=znq (show tl=ws.drop 1∧True from ⟨htl,trivial⟩)
   have HD4:=znq (show tl.length=4 from by rw [htl,XQ,HW.znr.1.1])
   have HV4:=znq (show (tl.map L).length=4 by rw [yf];exact HD4.znr)
   have HR1:=znq (Blk.nA (HS.znr.get 2 rfl) 1 4 (tl.map L) (by rw [htl,List.map_drop,List.take_of_length_le (by rw [XQ,HWL.znr];omega)]))
   clear htl
   have har:=run_arrayAt w5 (some ⟨bb,1,none⟩) 4 4 (by omega)
   obtain ⟨a0,ha0⟩:∃ a,a=at64 ws 0:=⟨_,rfl⟩
   have HA0:=znq (show a0=at64 ws 0∧True from ⟨ha0,trivial⟩)
   have hc0:=(HS.znr.get 2 rfl).cell 0 (L a0) (yz (by rw [ha0];exact z9 (l:=ws) (i:=0) (by rw [HW.znr.1.1];omega)))
   clear ha0
   have heql:∀ w,(binOp .eql 415 (.agg (tl.map L).toArray) (.agg #[.int .u64 67108863,.int .u64 67108863,.int .u64 67108863,.int .u64 67108863])).run Tryz.prog w=.ok (.bool (tl==[67108863,67108863,67108863,67108863])) w:=fun w=>VM (P:=Tryz.prog) w (t:=415) (e:=60) (n:=4) (ht:=Tryz.underlying415) (he:=Tryz.underlying60) (hsz:=Vd) (xs:=tl) (ys:=[67108863,67108863,67108863,67108863]) (hx:=HD4.znr) (hy:=rfl)
   by_cases hA:tl=[67108863,67108863,67108863,67108863]
   ·rw [show (tl==[67108863,67108863,67108863,67108863])=true from by simpa using hA] at heql
    have HAA:=znq (And.intro hA trivial)
    clear hA
    by_cases hB:67108858 < a0.toNat
    ·have d1:decide ((a0.toNat:Int) > 67108858)=true:=by simp;omega
     obtain ⟨x,hx⟩:∃ x,x=wk a0 67108859:=⟨_,rfl⟩
     have HXX:=znq (show wk a0 67108859=x∧True from ⟨hx.symm,trivial⟩)
     clear hx
     have hbu:=zgQ (wk a0 67108859)
     go_wp2_with (first | (refine (HS.znr.get 2 rfl).mP rfl rfl rfl zJ HWL.znr ?_) | (refine (HS.znr.get 0 rfl).mP rfl rfl rfl zJ HCL.znr ?_) | (refine wpList_load_mid rfl 415 (.tmp 13) rfl bb 1 rfl _ _ HR1.znr Tryz.underlying415 rfl (by rw [HV4.znr];exact XN.2) ?_) | (refine (HS.znr.get 2 rfl).mM rfl rfl rfl (cs:=([wk a0 67108859,0,0,0,0]:List UInt64).map L) rfl zJ HWL.znr rfl (qd _) ?_))
     intro w6 hb6 ho6
     have HCW:=znq (show [wk a0 67108859,0,0,0,0]=sN ws∧[wk a0 67108859,0,0,0,0].length=5 from ⟨by
      unfold sN
      have h1:=HTL.znr.1
      rw [HAA.znr.1] at h1
      have h2:∀ i,at64 ws (i+1)=at64 (ws.drop 1) i:=fun i=>by simp [at64,bT,List.getElem?_drop,Nat.add_comm]
      rw [if_pos ⟨⟨by rw [h2 0,← h1];rfl,by rw [h2 1,← h1];rfl,by rw [h2 2,← h1];rfl,by rw [h2 3,← h1];rfl⟩,by rw [← HA0.znr.1];exact hB⟩,← HA0.znr.1],rfl⟩)
     have hb6':Blk w6 bb ((sN ws).map L) 419:=by rw [← HCW.znr.1];exact hb6
     have HS:=znq (show St w bb w6 [(b3,(carried ws).map L,419),(b1,(wh 5 (0:UInt32)).map W,410),(bb,(sN ws).map L,419)] from HS.znr.change 2 hb6' ho6 (by omega) (by simp;omega))
     clear hb6 hb6' ho6
     have zgR:=znq (show (sN ws).length=5 from by rw [← HCW.znr.1];exact HCW.znr.2)
     have h56:b3 < w6.heap.size:=HS.znr.ne _ (xU (i:=0) rfl)
     go_wp2_with (refine ze 410 ((wh 5 (0:UInt32)).map W) _ rfl rfl xr rfl ?_)
     intro w7 hb hbel;have HS:=znq (HS.znr.push hb hbel);have zcQ:=hb.lt;clear hb hbel
     generalize w6.heap.size=b5 at *
     have zbN:=znq (show Qi (sN ws)=numOf (xA ws0 % PP)∧True from ⟨by rw [QT HT.znr,HW.znr.2],trivial⟩)
     generalize sN ws=cw at *
     go_wp2
     go_loopw [26] (fun c wr=>∃ (i:Nat) (v:List UInt32),i≤5∧c=.int .i64 i∧Hid (v.length=5∧∀ j,j < i→v[j]? = some (yX (at64 cw j)))∧Hid (St w bb wr [(b5,v.map W,410),(b3,(carried ws).map L,419),(b1,(wh 5 (0:UInt32)).map W,410),(bb,cw.map L,419)])) (fun c _=>5 - (intOf c).toNat)
     case atStart=>exact ⟨0,wh 5 0,by omega,rfl,znq ⟨rfl,fun j hj=>by omega⟩,HS⟩
     case round =>
      clear HS
      obtain ⟨i,v,hi,rfl,HF,HS⟩:=hrel
      by_cases hlt:i < 5
      ·have hc:=(HS.znr.get 3 rfl).cell i _ (yz (z9 (l:=cw) (i:=i) (by rw [zgR.znr];exact hlt)))
       go_wp2_with (refine (HS.znr.get 0 rfl).ry (i:=i) (v:=W (yX (at64 cw i))) rfl rfl rfl rfl yt rfl rfl (by rw [yf,HF.znr.1];exact hlt) ?_)
       intro w8 hb8 ho8
       rw [xI] at hb8
       have HS:=znq (HS.znr.change 0 hb8 ho8 (by omega) (by simp;omega))
       have HF:=znq (show (v.set i (yX (at64 cw i))).length=5∧∀ j,j < i+1→(v.set i (yX (at64 cw i)))[j]? = some (yX (at64 cw j)) from ⟨by rw [Vo];exact HF.znr.1,fun j hj=>by
        rw [uU]
        by_cases e:i=j
        ·subst e;rw [if_pos rfl,if_pos (by rw [HF.znr.1];exact hlt)]
        ·rw [if_neg e];exact HF.znr.2 j (by omega)⟩)
       clear hb8 ho8 hc
       go_wp2
       go_roundw
       case rel=>exact ⟨i+1,_,by omega,by go_num,HF,HS⟩
       case measure=>simp [intOf];omega
      ·obtain rfl:i=5:=by omega
       have HV:=znq (show v=Qi cw∧True from ⟨by
        apply uA
        intro j
        rcases bg j 5 with h | h
        ·rw [HF.znr.2 j h]
         match j,h with
         | 0,_=>rfl
         | 1,_=>rfl
         | 2,_=>rfl
         | 3,_=>rfl
         | 4,_=>rfl
        ·rw [qc (by rw [HF.znr.1];exact h),qc (by show 5≤j;exact h)],trivial⟩)
       rw [HV.znr.1,zbN.znr.1] at HS
       go_wp2_with (first | (refine (HS.znr.get 0 rfl).mP rfl rfl rfl zP rfl ?_) | (refine (HS.znr.get 2 rfl).mM rfl rfl rfl (cs:=(numOf (xA ws0 % PP)).map W) rfl zP rfl rfl (yT _) ?_))
       intro w9 hb9 ho9
       have HE:=znq (zk HS.znr.bel ho9 (by omega))
       clear ho9
       go_wp2
       first | rw [Exit.nZ] | skip
       refine hb9.result rfl rfl rfl zP rfl ⟨rfl,?_⟩
       rw [HBB.znr]
       exact HE.znr
    ·have d1:decide ((a0.toNat:Int) > 67108858)=false:=by simp;omega
     have HCW:=znq (show ws=sN ws∧ws.length=5 from ⟨by
      unfold sN
      rw [if_neg]
      rintro ⟨⟨h1,h2,h3,h4⟩,h5⟩
      exact hB (by rw [HA0.znr.1];exact h5),HW.znr.1.1⟩)
     have zgR:=znq (show (sN ws).length=5 from by rw [← HCW.znr.1];exact HCW.znr.2)
     have h56:b3 < w5.heap.size:=HS.znr.ne _ (xU (i:=0) rfl)
     go_wp2_with (first | (refine (HS.znr.get 2 rfl).mP rfl rfl rfl zJ HWL.znr ?_) | (refine (HS.znr.get 0 rfl).mP rfl rfl rfl zJ HCL.znr ?_) | (refine wpList_load_mid rfl 415 (.tmp 13) rfl bb 1 rfl _ _ HR1.znr Tryz.underlying415 rfl (by rw [HV4.znr];exact XN.2) ?_) | (refine ze 410 ((wh 5 (0:UInt32)).map W) _ rfl rfl xr rfl ?_))
     intro w7 hb hbel;have HS:=znq (HS.znr.push hb hbel);have zcQ:=hb.lt;clear hb hbel
     have HS:=znq (show St w bb w7 [(w5.heap.size,(wh 5 (0:UInt32)).map W,410),(b3,(carried ws).map L,419),(b1,(wh 5 (0:UInt32)).map W,410),(bb,(sN ws).map L,419)] from by have h:=HS.znr;rw [← HCW.znr.1];exact h)
     generalize w5.heap.size=b5 at *
     have zbN:=znq (show Qi (sN ws)=numOf (xA ws0 % PP)∧True from ⟨by rw [QT HT.znr,HW.znr.2],trivial⟩)
     generalize sN ws=cw at *
     go_wp2
     go_loopw [26] (fun c wr=>∃ (i:Nat) (v:List UInt32),i≤5∧c=.int .i64 i∧Hid (v.length=5∧∀ j,j < i→v[j]? = some (yX (at64 cw j)))∧Hid (St w bb wr [(b5,v.map W,410),(b3,(carried ws).map L,419),(b1,(wh 5 (0:UInt32)).map W,410),(bb,cw.map L,419)])) (fun c _=>5 - (intOf c).toNat)
     case atStart=>exact ⟨0,wh 5 0,by omega,rfl,znq ⟨rfl,fun j hj=>by omega⟩,HS⟩
     case round =>
      clear HS
      obtain ⟨i,v,hi,rfl,HF,HS⟩:=hrel
      by_cases hlt:i < 5
      ·have hc:=(HS.znr.get 3 rfl).cell i _ (yz (z9 (l:=cw) (i:=i) (by rw [zgR.znr];exact hlt)))
       go_wp2_with (refine (HS.znr.get 0 rfl).ry (i:=i) (v:=W (yX (at64 cw i))) rfl rfl rfl rfl yt rfl rfl (by rw [yf,HF.znr.1];exact hlt) ?_)
       intro w8 hb8 ho8
       rw [xI] at hb8
       have HS:=znq (HS.znr.change 0 hb8 ho8 (by omega) (by simp;omega))
       have HF:=znq (show (v.set i (yX (at64 cw i))).length=5∧∀ j,j < i+1→(v.set i (yX (at64 cw i)))[j]? = some (yX (at64 cw j)) from ⟨by rw [Vo];exact HF.znr.1,fun j hj=>by
        rw [uU]
        by_cases e:i=j
        ·subst e;rw [if_pos rfl,if_pos (by rw [HF.znr.1];exact hlt)]
        ·rw [if_neg e];exact HF.znr.2 j (by omega)⟩)
       clear hb8 ho8 hc
       go_wp2
       go_roundw
       case rel=>exact ⟨i+1,_,by omega,by go_num,HF,HS⟩
       case measure=>simp [intOf];omega
      ·obtain rfl:i=5:=by omega
       have HV:=znq (show v=Qi cw∧True from ⟨by
        apply uA
        intro j
        rcases bg j 5 with h | h
        ·rw [HF.znr.2 j h]
         match j,h with
         | 0,_=>rfl
         | 1,_=>rfl
         | 2,_=>rfl
         | 3,_=>rfl
         | 4,_=>rfl
        ·rw [qc (by rw [HF.znr.1];exact h),qc (by show 5≤j;exact h)],trivial⟩)
       rw [HV.znr.1,zbN.znr.1] at HS
       go_wp2_with (first | (refine (HS.znr.get 0 rfl).mP rfl rfl rfl zP rfl ?_) | (refine (HS.znr.get 2 rfl).mM rfl rfl rfl (cs:=(numOf (xA ws0 % PP)).map W) rfl zP rfl rfl (yT _) ?_))
       intro w9 hb9 ho9
       have HE:=znq (zk HS.znr.bel ho9 (by omega))
       clear ho9
       go_wp2
       first | rw [Exit.nZ] | skip
       refine hb9.result rfl rfl rfl zP rfl ⟨rfl,?_⟩
       rw [HBB.znr]
       exact HE.znr
   ·rw [show (tl==[67108863,67108863,67108863,67108863])=false from by simpa using hA] at heql
    have HAA:=znq (And.intro hA trivial)
    clear hA
    have HCW:=znq (show ws=sN ws∧ws.length=5 from ⟨by
     unfold sN
     rw [if_neg]
     rintro ⟨⟨h1,h2,h3,h4⟩,h5⟩
     exact HAA.znr.1 (by
      rw [HTL.znr.1]
      obtain ⟨a0,a1,a2,a3,a4,rfl⟩:=zck HW.znr.1.1
      have e1:a1=67108863:=h1
      have e2:a2=67108863:=h2
      have e3:a3=67108863:=h3
      have e4:a4=67108863:=h4
      rw [e1,e2,e3,e4]
      rfl),HW.znr.1.1⟩)
    have zgR:=znq (show (sN ws).length=5 from by rw [← HCW.znr.1];exact HCW.znr.2)
    have h56:b3 < w5.heap.size:=HS.znr.ne _ (xU (i:=0) rfl)
    go_wp2_with (first | (refine (HS.znr.get 2 rfl).mP rfl rfl rfl zJ HWL.znr ?_) | (refine (HS.znr.get 0 rfl).mP rfl rfl rfl zJ HCL.znr ?_) | (refine wpList_load_mid rfl 415 (.tmp 13) rfl bb 1 rfl _ _ HR1.znr Tryz.underlying415 rfl (by rw [HV4.znr];exact XN.2) ?_) | (refine ze 410 ((wh 5 (0:UInt32)).map W) _ rfl rfl xr rfl ?_))
    intro w7 hb hbel;have HS:=znq (HS.znr.push hb hbel);have zcQ:=hb.lt;clear hb hbel
    have HS:=znq (show St w bb w7 [(w5.heap.size,(wh 5 (0:UInt32)).map W,410),(b3,(carried ws).map L,419),(b1,(wh 5 (0:UInt32)).map W,410),(bb,(sN ws).map L,419)] from by have h:=HS.znr;rw [← HCW.znr.1];exact h)
    generalize w5.heap.size=b5 at *
    have zbN:=znq (show Qi (sN ws)=numOf (xA ws0 % PP)∧True from ⟨by rw [QT HT.znr,HW.znr.2],trivial⟩)
    generalize sN ws=cw at *
    go_wp2
    go_loopw [26] (fun c wr=>∃ (i:Nat) (v:List UInt32),i≤5∧c=.int .i64 i∧Hid (v.length=5∧∀ j,j < i→v[j]? = some (yX (at64 cw j)))∧Hid (St w bb wr [(b5,v.map W,410),(b3,(carried ws).map L,419),(b1,(wh 5 (0:UInt32)).map W,410),(bb,cw.map L,419)])) (fun c _=>5 - (intOf c).toNat)
    case atStart=>exact ⟨0,wh 5 0,by omega,rfl,znq ⟨rfl,fun j hj=>by omega⟩,HS⟩
    case round =>
     clear HS
     obtain ⟨i,v,hi,rfl,HF,HS⟩:=hrel
     by_cases hlt:i < 5
     ·have hc:=(HS.znr.get 3 rfl).cell i _ (yz (z9 (l:=cw) (i:=i) (by rw [zgR.znr];exact hlt)))
      go_wp2_with (refine (HS.znr.get 0 rfl).ry (i:=i) (v:=W (yX (at64 cw i))) rfl rfl rfl rfl yt rfl rfl (by rw [yf,HF.znr.1];exact hlt) ?_)
      intro w8 hb8 ho8
      rw [xI] at hb8
      have HS:=znq (HS.znr.change 0 hb8 ho8 (by omega) (by simp;omega))
      have HF:=znq (show (v.set i (yX (at64 cw i))).length=5∧∀ j,j < i+1→(v.set i (yX (at64 cw i)))[j]? = some (yX (at64 cw j)) from ⟨by rw [Vo];exact HF.znr.1,fun j hj=>by
       rw [uU]
       by_cases e:i=j
       ·subst e;rw [if_pos rfl,if_pos (by rw [HF.znr.1];exact hlt)]
       ·rw [if_neg e];exact HF.znr.2 j (by omega)⟩)
      clear hb8 ho8 hc
      go_wp2
      go_roundw
      case rel=>exact ⟨i+1,_,by omega,by go_num,HF,HS⟩
      case measure=>simp [intOf];omega
     ·obtain rfl:i=5:=by omega
      have HV:=znq (show v=Qi cw∧True from ⟨by
       apply uA
       intro j
       rcases bg j 5 with h | h
       ·rw [HF.znr.2 j h]
        match j,h with
        | 0,_=>rfl
        | 1,_=>rfl
        | 2,_=>rfl
        | 3,_=>rfl
        | 4,_=>rfl
       ·rw [qc (by rw [HF.znr.1];exact h),qc (by show 5≤j;exact h)],trivial⟩)
      rw [HV.znr.1,zbN.znr.1] at HS
      go_wp2_with (first | (refine (HS.znr.get 0 rfl).mP rfl rfl rfl zP rfl ?_) | (refine (HS.znr.get 2 rfl).mM rfl rfl rfl (cs:=(numOf (xA ws0 % PP)).map W) rfl zP rfl rfl (yT _) ?_))
      intro w9 hb9 ho9
      have HE:=znq (zk HS.znr.bel ho9 (by omega))
      clear ho9
      go_wp2
      first | rw [Exit.nZ] | skip
      refine hb9.result rfl rfl rfl zP rfl ⟨rfl,?_⟩
      rw [HBB.znr]
      exact HE.znr
  ·have zkW:=znq (zhe HW.znr.1 hq)
   have HNX:=znq (show Zq (carried ws)∧xA (carried ws) % PP=xA ws0 % PP from ⟨by obtain ⟨c,h1,h2,h3,h4,h5⟩:=vA HW.znr.1;exact h5,by rw [zcl HW.znr.1,HW.znr.2]⟩)
   rw [show (carried ws==ws)=false from by simpa using hq,Bool.not_false] at hneq
   clear hq
   go_wp2_with (first | (refine (HS.znr.get 2 rfl).mP rfl rfl rfl zJ HWL.znr ?_) | (refine (HS.znr.get 0 rfl).mP rfl rfl rfl zJ HCL.znr ?_) | (refine (HS.znr.get 0 rfl).mM rfl rfl rfl (cs:=(carried ws).map L) rfl zJ rfl HCL.znr (qd _) ?_))
   intro w5 hb5 ho5
   have HS:=znq (HS.znr.change 0 hb5 ho5 (by omega) (by simp;omega))
   clear hb5 ho5
   go_wp2_with (first | (refine (HS.znr.get 2 rfl).mP rfl rfl rfl zJ HWL.znr ?_) | (refine (HS.znr.get 0 rfl).mP rfl rfl rfl zJ HCL.znr ?_) | (refine (HS.znr.get 2 rfl).mM rfl rfl rfl (cs:=(carried ws).map L) rfl zJ HWL.znr HCL.znr (qd _) ?_))
   intro w6 hb6 ho6
   have HS:=znq (HS.znr.change 2 hb6 ho6 (by omega) (by simp;omega))
   clear hb6 ho6
   have HM6:=znq (show Va w6 bb=carried ws∧True from ⟨Vb (HS.znr.get 2 rfl),trivial⟩)
   go_wp2
   refine wp_goto ⟨rfl,Vc.intro (carried ws) rfl HNX.znr HS.znr.tail,?_⟩
   rw [HM6.znr.1]
   exact zkW.znr
end Go.Proofs.YtamdifhibogdiaaGreatDoor
namespace Go.pI
open Ops Oct
theorem WD {n:Nat} (h:n < PP):n < 1361129467683753853853498429727072845824:=Nat.lt_trans h (by decide)
theorem ze6:0 < PP:=by decide
end Go.pI
namespace Go.Proofs.YtamdifhibogdiaaGreatDoor
open RowKit Mem Ops Cells Oct Trn Blake pI
attribute [local irreducible] zE zN zO zM yJ
theorem xG (n:Nat):((numOf n).map W).length=5:=rfl
theorem zap (n:Nat) (w:World) (hn:n < PP):Calls Tryz.prog 331 #[.agg ((numOf n).map W).toArray] w fun e w'=>e=.returned (.agg ((numOf n).map W).toArray)∧Below w.heap.size w w':=by
 have HN:=znq hn
 have HS:=znq (St.start w)
 have HNV:=znq (xG n)
 clear hn
 go_enter Tryz.func331,Tryz.ntmps331
 go_wp2_with (refine zh 410 _ ((numOf n).map W) _ rfl rfl rfl rfl ?_)
 intro w1 hb hbel;have HS:=znq (HS.znr.push hb hbel);have hlt1:=hb.lt;clear hb hbel
 go_wp2_with (refine ze 410 ((wh 5 (0:UInt32)).map W) _ rfl rfl xr rfl ?_)
 intro w2 hb hbel;have HS:=znq (HS.znr.push hb hbel);have hlt2:=hb.lt;clear hb hbel
 generalize hbb:w.heap.size=bb at *
 generalize w1.heap.size=b1 at *
 have HBB:=znq hbb
 clear hbb
 go_wp2_with (refine (HS.znr.get 1 rfl).mP rfl rfl rfl zP HNV.znr ?_)
 refine (YF n _).mono ?_
 rintro e w3 ⟨rfl,hbel⟩
 have HS:=znq (HS.znr.later hbel)
 clear hbel
 go_wp2_with fail
 refine (KQ (xq (numOf n)) _ (qI n).loose).mono ?_
 rintro e w4 ⟨rfl,hbel⟩
 rw [kS (WD HN.znr),Nat.mod_eq_of_lt HN.znr]
 have HS:=znq (HS.znr.later hbel)
 clear hbel
 go_wp2_with (refine (HS.znr.get 0 rfl).mM rfl rfl rfl (cs:=(numOf n).map W) rfl zP rfl rfl (yT _) ?_)
 intro w5 hb5 ho5
 have HE:=znq (zk HS.znr.bel ho5 (by omega))
 clear ho5
 go_wp2
 refine hb5.result rfl rfl rfl zP rfl ⟨rfl,?_⟩
 rw [HBB.znr]
 exact HE.znr
theorem zko (n m:Nat) (w:World) (hn:n < PP) (hm:m < PP):Calls Tryz.prog 325 #[.agg ((numOf n).map W).toArray,.agg ((numOf m).map W).toArray] w fun e w'=>e=.returned (.agg ((numOf ((n+m) % PP)).map W).toArray)∧Below w.heap.size w w':=by
 obtain ⟨h1,h2⟩:=zez (qI n) (qI m)
 rw [kS (WD hn),kS (WD hm)] at h2
 have HLO:=znq h1
 have HVA:=znq (show xA (zcm (xq (numOf n)) (xq (numOf m)))=n+m∧True from ⟨h2,trivial⟩)
 have HS:=znq (St.start w)
 have HNV:=znq (xG n)
 obtain ⟨zs,has⟩:∃ zs,zs=xq (numOf n):=⟨_,rfl⟩
 have HAS:=znq (show xq (numOf n)=zs∧zs.length=5 from ⟨has.symm,by rw [has];rfl⟩)
 obtain ⟨ms,hms⟩:∃ ms,ms=numOf m:=⟨_,rfl⟩
 have HMS:=znq (show xq (numOf m)=xq ms∧ms.length=5 from ⟨by rw [hms],by rw [hms];rfl⟩)
 rw [← hms]
 clear hn hm h1 h2 has hms
 go_enter Tryz.func325,Tryz.ntmps325
 go_wp2_with (refine zh 410 _ ((numOf n).map W) _ rfl rfl rfl rfl ?_)
 intro w1 hb hbel;have HS:=znq (HS.znr.push hb hbel);have hlt1:=hb.lt;clear hb hbel
 go_wp2_with (refine zh 410 _ (ms.map W) _ rfl rfl rfl rfl ?_)
 intro w2 hb hbel;have HS:=znq (HS.znr.push hb hbel);have hlt2:=hb.lt;clear hb hbel
 go_wp2_with (refine ze 410 ((wh 5 (0:UInt32)).map W) _ rfl rfl xr rfl ?_)
 intro w3 hb hbel;have HS:=znq (HS.znr.push hb hbel);have hlt3:=hb.lt;clear hb hbel
 generalize hbb:w.heap.size=bb at *
 generalize w1.heap.size=b1 at *
 generalize w2.heap.size=b2 at *
 have HBB:=znq hbb
 clear hbb
 go_wp2_with (refine (HS.znr.get 2 rfl).mP rfl rfl rfl zP HNV.znr ?_)
 refine (YF n _).mono ?_
 rintro e w4 ⟨rfl,hbel⟩
 rw [HAS.znr.1]
 have HS:=znq (HS.znr.later hbel)
 clear hbel
 have h24:b2 < w4.heap.size:=HS.znr.ne _ (xU (i:=0) rfl)
 have HAV:=znq (show (zs.map L).length=5 by rw [yf];exact HAS.znr.2)
 go_wp2_with (refine ze 419 ((wh 5 (0:UInt64)).map L) _ rfl rfl xe rfl ?_)
 intro w5 hb hbel;have HS:=znq (HS.znr.push hb hbel);have zcO:=hb.lt;clear hb hbel
 generalize w4.heap.size=b4 at *
 go_wp2_with (refine (HS.znr.get 0 rfl).mM rfl rfl rfl (cs:=zs.map L) rfl zJ rfl HAV.znr (qd _) ?_)
 intro w6 hb6 ho6
 have HS:=znq (HS.znr.change 0 hb6 ho6 (by omega) (by simp;omega))
 clear hb6 ho6
 go_wp2
 go_loopw [9] (fun c wr=>∃ (i:Nat) (v:List UInt64),i≤5∧c=.int .i64 i∧Hid (v.length=5∧∀ j,j < 5→v[j]? = some (if j < i then zy (at64 zs j) (yI (yR ms j)) else at64 zs j))∧Hid (St w bb wr [(b4,v.map L,419),(b2,(wh 5 (0:UInt32)).map W,410),(b1,ms.map W,410),(bb,(numOf n).map W,410)])) (fun c _=>5 - (intOf c).toNat)
 case atStart=>exact ⟨0,zs,by omega,rfl,znq ⟨HAS.znr.2,fun j hj=>by rw [if_neg (by omega)];exact z9 (by rw [HAS.znr.2];exact hj)⟩,HS⟩
 case round =>
  clear HS
  obtain ⟨i,v,hi,rfl,HF,HS⟩:=hrel
  by_cases hlt:i < 5
  ·have hvi:v[i]? = some (at64 zs i):=by rw [HF.znr.2 i hlt,if_neg (by omega)]
   have hc0:=fun (x:zG wr.drew)=>((HS.znr.get 0 rfl).drew.below x.later (HS.znr.get 0 rfl).drew.lt).cell i _ (yz hvi)
   have hc1:=fun (x:zG wr.drew)=>((HS.znr.get 2 rfl).drew.below x.later (HS.znr.get 2 rfl).drew.lt).cell i _ (kz (qO (l:=ms) (i:=i) (by rw [HMS.znr.2];exact hlt)))
   clear hvi
   go_wp2_with fail
   refine zn [0,1,2,3,4,5,6,7,8,9] (by kernel_rfl) (by kernel_rfl) ?_
   rintro w7 rfl
   refine mqR ?_
   clear hc0 hc1
   have HS:=znq HS.znr.drew
   refine zp rfl rfl (by rfl) (fun K hK=>?_)
   refine (HS.znr.get 0 rfl).nO (v:=L (zy (at64 zs i) (yI (yR ms i)))) rfl rfl rfl zR rfl rfl (by rw [yf,HF.znr.1];exact hlt) (fun w8 hb8 ho8=>hK _ _ ?_)
   clear hK K
   rw [y7] at hb8
   have HS:=znq (HS.znr.change 0 hb8 ho8 (by omega) (by simp;omega))
   have HF:=znq (show (v.set i (zy (at64 zs i) (yI (yR ms i)))).length=5∧∀ j,j < 5→(v.set i (zy (at64 zs i) (yI (yR ms i))))[j]? = some (if j < i+1 then zy (at64 zs j) (yI (yR ms j)) else at64 zs j) from ⟨by rw [Vo];exact HF.znr.1,fun j hj=>by
    rw [uU]
    by_cases e:i=j
    ·subst e;rw [if_pos rfl,if_pos (by rw [HF.znr.1];exact hlt),if_pos (by omega)]
    ·rw [if_neg e,HF.znr.2 j hj]
     by_cases h:j < i
     ·rw [if_pos h,if_pos (by omega)]
     ·rw [if_neg h,if_neg (by omega)]⟩)
   clear hb8 ho8
   go_simp
   refine zo ?_
   go_wp2
   go_roundw
   case rel=>exact ⟨i+1,_,by omega,by go_num,HF,HS⟩
   case measure=>simp [intOf];omega
  ·obtain rfl:i=5:=by omega
   have HV:=znq (show v=zcm (xq (numOf n)) (xq (numOf m))∧True from ⟨by
    rw [HAS.znr.1,HMS.znr.1]
    apply uA
    intro j
    rcases bg j 5 with h | h
    ·rw [HF.znr.2 j h,if_pos h]
     match j,h with
     | 0,_=>rfl
     | 1,_=>rfl
     | 2,_=>rfl
     | 3,_=>rfl
     | 4,_=>rfl
    ·rw [qc (by rw [HF.znr.1];exact h),qc (by show 5≤j;exact h)],trivial⟩)
   rw [← HV.znr.1] at HLO HVA
   have HVV:=znq (show (v.map L).length=5 by rw [yf];exact HF.znr.1)
   go_wp2_with (refine (HS.znr.get 0 rfl).mP rfl rfl rfl zJ HVV.znr ?_)
   refine (KQ v _ HLO.znr).mono ?_
   rintro e w9 ⟨rfl,hbel⟩
   rw [HVA.znr.1]
   have HS:=znq (HS.znr.later hbel)
   clear hbel
   go_wp2_with (refine (HS.znr.get 1 rfl).mM rfl rfl rfl (cs:=(numOf ((n+m) % PP)).map W) rfl zP rfl rfl (yT _) ?_)
   intro w10 sD rH
   have HE:=znq (zk HS.znr.bel rH (by omega))
   clear rH
   go_wp2
   refine sD.result rfl rfl rfl zP rfl ⟨rfl,?_⟩
   rw [HBB.znr]
   exact HE.znr
theorem zgd (b:List UInt8) (high:UInt32) (w:World) (hb:b.length=16) (hh:high.toNat≤1):Calls Tryz.prog 319 #[.agg (b.map B).toArray,W high] w fun e w'=>e=.returned (.agg ((numOf ((leN b+340282366920938463463374607431768211456*high.toNat) % PP)).map W).toArray)∧Below w.heap.size w w':=by
 obtain ⟨h1,h2⟩:=zj9 (pJ b 0) (pJ b 8) high hh
 have HLO:=znq h1
 have HVA:=znq (show xA (ofL (pJ b 0) (pJ b 8) high)=leN b+340282366920938463463374607431768211456*high.toNat∧True from ⟨h2,trivial⟩)
 have HB:=znq (show b.length=16∧True from ⟨hb,trivial⟩)
 have HS:=znq (St.start w)
 clear h1 h2 hb hh
 go_enter Tryz.func319,Tryz.ntmps319
 go_wp2_with (refine zh 59 _ (b.map B) _ rfl rfl rfl rfl ?_)
 intro w1 hb hbel;have HS:=znq (HS.znr.push hb hbel);have hlt1:=hb.lt;clear hb hbel
 go_wp2_with (refine ze 410 ((wh 5 (0:UInt32)).map W) _ rfl rfl xr rfl ?_)
 intro w2 hb hbel;have HS:=znq (HS.znr.push hb hbel);have hlt2:=hb.lt;clear hb hbel
 generalize hbb:w.heap.size=bb at *
 generalize w1.heap.size=b1 at *
 have HBB:=znq hbb
 clear hbb
 go_wp2_with fail
 refine (YL (some ⟨bb,0,none⟩) 16 16 b _ HB.znr.1 (by omega) (HS.znr.get 1 rfl).lies).mono ?_
 rintro e w3 ⟨rfl,hbel⟩
 have HS:=znq (HS.znr.later hbel)
 clear hbel
 have h13:b1 < w3.heap.size:=HS.znr.ne _ (xU (i:=0) rfl)
 go_wp2_with (refine ze 62 ([L 0,L 0]) _ rfl rfl zT rfl ?_)
 intro w4 hb hbel;have HS:=znq (HS.znr.push hb hbel);have zaE:=hb.lt;clear hb hbel
 generalize w3.heap.size=b3 at *
 go_wp2_with (refine (HS.znr.get 0 rfl).mM rfl rfl rfl (cs:=[L (pJ b 0),L (pJ b 8)]) rfl zq rfl rfl (by intro v hv;simp at hv;rcases hv with rfl | rfl <;> rfl) ?_)
 intro w5 hb5 ho5
 have HS:=znq (HS.znr.change 0 hb5 ho5 (by omega) (by simp;omega))
 clear hb5 ho5
 have hc0:=(HS.znr.get 0 rfl).cell 0 _ rfl
 have hc1:=(HS.znr.get 0 rfl).cell 1 _ rfl
 generalize hlo:pJ b 0=lo at *
 generalize hhi:pJ b 8=hi at *
 go_wp2_with fail
 refine (KQ (ofL lo hi high) _ HLO.znr).mono ?_
 rintro e w6 ⟨rfl,hbel⟩
 rw [HVA.znr.1]
 have HS:=znq (HS.znr.later hbel)
 clear hbel
 go_wp2_with (refine (HS.znr.get 1 rfl).mM rfl rfl rfl (cs:=(numOf ((leN b+340282366920938463463374607431768211456*high.toNat) % PP)).map W) rfl zP rfl rfl (yT _) ?_)
 intro w7 hb7 ho7
 have HE:=znq (zk HS.znr.bel ho7 (by omega))
 clear ho7
 go_wp2
 refine hb7.result rfl rfl rfl zP rfl ⟨rfl,?_⟩
 rw [HBB.znr]
 exact HE.znr
theorem zmu (n:Nat) (w:World) (hn:n < PP):Calls Tryz.prog 328 #[.agg ((numOf n).map W).toArray] w fun e w'=>e=.returned (.agg ((Z7 n).map B).toArray)∧Below w.heap.size w w':=by
 obtain ⟨h1,h2⟩:=zka (qI n)
 rw [kS (WD hn)] at h1 h2
 obtain ⟨zs,hzs⟩:∃ zs,zs=xq (numOf n):=⟨_,rfl⟩
 rw [← hzs] at h1 h2
 have HN:=znq hn
 have HZS:=znq (show xq (numOf n)=zs∧zs.length=5 from ⟨hzs.symm,by rw [hzs];rfl⟩)
 have HLB:=znq (show Z7 n=zz (zf4 zs)++zz (zf5 zs)∧True from ⟨by rw [h1,h2];rfl,trivial⟩)
 have HLL:=znq (show ((Z7 n).map B).length=16 by rw [yf];exact YA n)
 have HNV:=znq (xG n)
 have HS:=znq (St.start w)
 clear hn h1 h2 hzs
 go_enter Tryz.func328,Tryz.ntmps328
 go_wp2_with (refine zh 410 _ ((numOf n).map W) _ rfl rfl rfl rfl ?_)
 intro w1 hb hbel;have HS:=znq (HS.znr.push hb hbel);have hlt1:=hb.lt;clear hb hbel
 go_wp2_with (refine ze 59 ((zf 16).map B) _ rfl rfl zj rfl ?_)
 intro w2 hb hbel;have HS:=znq (HS.znr.push hb hbel);have hlt2:=hb.lt;clear hb hbel
 generalize hbb:w.heap.size=bb at *
 generalize w1.heap.size=b1 at *
 have HBB:=znq hbb
 clear hbb
 go_wp2_with (refine (HS.znr.get 1 rfl).mP rfl rfl rfl zP HNV.znr ?_)
 refine (zap n _ HN.znr).mono ?_
 rintro e w3 ⟨rfl,hbel⟩
 have HS:=znq (HS.znr.later hbel)
 clear hbel
 go_wp2_with fail
 refine (YF n _).mono ?_
 rintro e w4 ⟨rfl,hbel⟩
 rw [HZS.znr.1]
 have HS:=znq (HS.znr.later hbel)
 clear hbel
 have HZV:=znq (show (zs.map L).length=5 by rw [yf];exact HZS.znr.2)
 have h14:b1 < w4.heap.size:=HS.znr.ne _ (xU (i:=0) rfl)
 go_wp2_with (refine ze 419 ((wh 5 (0:UInt64)).map L) _ rfl rfl xe rfl ?_)
 intro w5 hb hbel;have HS:=znq (HS.znr.push hb hbel);have zcO:=hb.lt;clear hb hbel
 generalize w4.heap.size=b4 at *
 go_wp2_with (refine (HS.znr.get 0 rfl).mM rfl rfl rfl (cs:=zs.map L) rfl zJ rfl HZV.znr (qd _) ?_)
 intro w6 hb6 ho6
 have HS:=znq (HS.znr.change 0 hb6 ho6 (by omega) (by simp;omega))
 clear hb6 ho6
 have hc:=fun i (hi:i < 5)=>(HS.znr.get 0 rfl).cell i _ (yz (z9 (l:=zs) (i:=i) (by rw [HZS.znr.2];exact hi)))
 have hc0:=hc 0 (by omega)
 have hc1:=hc 1 (by omega)
 have hc2:=hc 2 (by omega)
 have hc3:=hc 3 (by omega)
 have hc4:=hc 4 (by omega)
 clear hc
 go_wp2_with fail
 refine (k5 (zf4 zs) (zf5 zs) _).mono ?_
 rintro e w7 ⟨rfl,hbel⟩
 rw [← HLB.znr.1]
 have HS:=znq (HS.znr.later hbel)
 clear hbel
 go_wp2_with (refine (HS.znr.get 1 rfl).mM rfl rfl rfl (cs:=(Z7 n).map B) rfl zc rfl HLL.znr (zg _) ?_)
 intro w8 hb8 ho8
 have HE:=znq (zk HS.znr.bel ho8 (by omega))
 clear ho8
 go_wp2
 refine hb8.result rfl rfl rfl zc HLL.znr ⟨rfl,?_⟩
 rw [HBB.znr]
 exact HE.znr
end Go.Proofs.YtamdifhibogdiaaGreatDoor
namespace Go.Proofs.YtamdifhibogdiaaGreatDoor
open RowKit Mem Ops Cells Oct Trn Blake pI
attribute [local irreducible] zE zN zO zM yJ
theorem zht (n m:Nat) (w:World) (hn:n < PP) (hm:m < PP):Calls Tryz.prog 326 #[.agg ((numOf n).map W).toArray,.agg ((numOf m).map W).toArray] w fun e w'=>e=.returned (.agg ((numOf ((n*m) % PP)).map W).toArray)∧Below w.heap.size w w':=by
 obtain ⟨h1,h2⟩:=zcn (qI n) (qI m)
 rw [kS (WD hn),kS (WD hm)] at h2
 obtain ⟨za,hza⟩:∃ z,z=xq (numOf n):=⟨_,rfl⟩
 obtain ⟨zb,hzb⟩:∃ z,z=xq (numOf m):=⟨_,rfl⟩
 rw [← hza,← hzb] at h1 h2
 have HN:=znq hn
 have HM:=znq hm
 have HZA:=znq (show xq (numOf n)=za∧za.length=5 from ⟨hza.symm,by rw [hza];rfl⟩)
 have HZB:=znq (show xq (numOf m)=zb∧zb.length=5 from ⟨hzb.symm,by rw [hzb];rfl⟩)
 have HLO:=znq h1
 have HVA:=znq (show xA (pz za zb [0,0,0,0,0] 5) % PP=n*m % PP∧True from ⟨h2,trivial⟩)
 have HNV:=znq (xG n)
 have HMV:=znq (xG m)
 have HAV:=znq (show (za.map L).length=5 by rw [yf];exact HZA.znr.2)
 have HBV:=znq (show (zb.map L).length=5 by rw [yf];exact HZB.znr.2)
 have HS:=znq (St.start w)
 clear hn hm h1 h2 hza hzb
 go_enter Tryz.func326,Tryz.ntmps326
 go_wp2_with (refine zh 410 _ ((numOf n).map W) _ rfl rfl rfl rfl ?_)
 intro w1 hb hbel;have HS:=znq (HS.znr.push hb hbel);have hlt1:=hb.lt;clear hb hbel
 go_wp2_with (refine zh 410 _ ((numOf m).map W) _ rfl rfl rfl rfl ?_)
 intro w2 hb hbel;have HS:=znq (HS.znr.push hb hbel);have hlt2:=hb.lt;clear hb hbel
 go_wp2_with (refine ze 410 ((wh 5 (0:UInt32)).map W) _ rfl rfl xr rfl ?_)
 intro w3 hb hbel;have HS:=znq (HS.znr.push hb hbel);have hlt3:=hb.lt;clear hb hbel
 have g0:w.heap.size < w3.heap.size:=HS.znr.ne _ (xU (i:=2) rfl)
 have g1:w1.heap.size < w3.heap.size:=HS.znr.ne _ (xU (i:=1) rfl)
 have g2:w2.heap.size < w3.heap.size:=HS.znr.ne _ (xU (i:=0) rfl)
 generalize hbb:w.heap.size=bb at *
 generalize w1.heap.size=b1 at *
 generalize w2.heap.size=b2 at *
 have HBB:=znq hbb
 clear hbb
 go_wp2_with fail
 refine yn [0,3] [1,2,4,5] [8,9] [zH.var 6 5 419 ((wh 5 (0:UInt64)).map L),zH.var 7 6 419 ((wh 5 (0:UInt64)).map L)] (by kernel_rfl) (by kernel_rfl) ?_
 rintro w4 rfl
 have HS:=znq HS.znr.drew
 refine zL (HS.znr.get 2 rfl).range (HS.znr.get 2 rfl).lt zP HNV.znr rfl rfl rfl (fun K hK=>?_)
 go_simp;refine hK _ ?_;clear hK K
 refine zL (HS.znr.get 1 rfl).range (HS.znr.get 1 rfl).lt zP HMV.znr rfl rfl rfl (fun K hK=>?_)
 go_simp;refine hK _ ?_;clear hK K
 refine yK ⟨?_,?_,Nat.le_refl _⟩
 ·intro f hf
  simp only [List.mem_cons,List.not_mem_nil,or_false] at hf
  rcases hf with rfl | rfl
  ·exact zhq _ _ _ _ _ _ rfl rfl rfl rfl (by simp) xe rfl
  ·exact zhq _ _ _ _ _ _ rfl rfl rfl rfl (by simp) xe rfl
 refine xD rfl rfl (fun uz vz wa hla K hK=>?_)
 go_simp
 have HS:=znq (HS.znr.later hla)
 refine (zap n _ HN.znr).mono ?_
 rintro e w5 ⟨rfl,hbel⟩
 have HS:=znq (HS.znr.later hbel)
 go_simp
 refine hK _ _ hbel ?_
 clear hK K hbel hla
 refine xD rfl rfl (fun uz vz wa hla K hK=>?_)
 go_simp
 have HS:=znq (HS.znr.later hla)
 refine (YF n _).mono ?_
 rintro e w6 ⟨rfl,hbel⟩
 rw [HZA.znr.1]
 have HS:=znq (HS.znr.later hbel)
 go_simp
 refine hK _ _ hbel ?_
 clear hK K hbel hla
 refine xD rfl rfl (fun uz vz wa hla K hK=>?_)
 go_simp
 have HS:=znq (HS.znr.later hla)
 refine (zap m _ HM.znr).mono ?_
 rintro e w7 ⟨rfl,hbel⟩
 have HS:=znq (HS.znr.later hbel)
 go_simp
 refine hK _ _ hbel ?_
 clear hK K hbel hla
 refine xD rfl rfl (fun uz vz wa hla K hK=>?_)
 go_simp
 have HS:=znq (HS.znr.later hla)
 refine (YF m _).mono ?_
 rintro e w8 ⟨rfl,hbel⟩
 rw [HZB.znr.1]
 have HS:=znq (HS.znr.later hbel)
 go_simp
 refine hK _ _ hbel ?_
 clear hK K hbel hla
 refine ZB (fun bx bY wb hlb hbx hby hxy hbn hbm=>?_)
 go_simp
 have HS:=znq (((HS.znr.later hlb).add (show Blk wb bx ((wh 5 (0:UInt64)).map L) 419 from hbn)).add (show Blk wb bY ((wh 5 (0:UInt64)).map L) 419 from hbm))
 clear hlb hbn hbm
 generalize w3.heap.size=b3 at *
 refine zp rfl rfl (by rfl) (fun K hK=>?_)
 refine (HS.znr.get 1 rfl).mZ rfl rfl rfl zJ rfl HAV.znr (qd _) (fun w9 hb ho=>hK _ _ ?_)
 clear hK K
 have HS:=znq (HS.znr.change 1 hb ho (by omega) (by simp;omega))
 clear hb ho
 go_simp
 refine zp rfl rfl (by rfl) (fun K hK=>?_)
 refine (HS.znr.get 0 rfl).mZ rfl rfl rfl zJ rfl HBV.znr (qd _) (fun w10 hb ho=>hK _ _ ?_)
 clear hK K
 have HS:=znq (HS.znr.change 0 hb ho (by omega) (by simp;omega))
 clear hb ho
 go_simp
 refine zo ?_
 have h1:bx < w10.heap.size:=HS.znr.ne _ (xU (i:=1) rfl)
 have h2:bY < w10.heap.size:=HS.znr.ne _ (xU (i:=0) rfl)
 have h3:b2 < w10.heap.size:=HS.znr.ne _ (xU (i:=2) rfl)
 go_wp2_with (refine ze 419 ((wh 5 (0:UInt64)).map L) _ rfl rfl xe rfl ?_)
 intro w11 hb hbel;have HS:=znq (HS.znr.push hb hbel);have zjU:=hb.lt;clear hb hbel
 generalize w10.heap.size=b4 at *
 go_wp2
 go_loopw [17] (fun c wr=>∃ (i:Nat),i≤5∧c=.int .i64 i∧Hid (St w bb wr [(b4,(pz za zb [0,0,0,0,0] i).map L,419),(bY,zb.map L,419),(bx,za.map L,419),(b2,(wh 5 (0:UInt32)).map W,410),(b1,(numOf m).map W,410),(bb,(numOf n).map W,410)])) (fun c _=>5 - (intOf c).toNat)
 case atStart=>exact ⟨0,by omega,rfl,HS⟩
 case round =>
  clear HS
  obtain ⟨i,hi,rfl,HS⟩:=hrel
  by_cases hlt:i < 5
  ·have HTL:=znq (show (pz za zb [0,0,0,0,0] i).length=5 from by rw [wZ];rfl)
   have HTN:=znq (show pz za zb [0,0,0,0,0] (i+1)=sZ za zb (pz za zb [0,0,0,0,0] i) i 5∧True from ⟨rfl,trivial⟩)
   obtain ⟨tn,htn⟩:∃ t,t=pz za zb [0,0,0,0,0] (i+1):=⟨_,rfl⟩
   rw [← htn] at HTN
   have HT:=znq (show pz za zb [0,0,0,0,0] (i+1)=tn∧True from ⟨htn.symm,trivial⟩)
   clear htn
   generalize pz za zb [0,0,0,0,0] i=v at *
   have di:decide ((i:Int) < 5)=true:=by simp;omega
   go_wp2
   go_loopw [20] (fun c wr=>∃ (j:Nat),j≤5∧c=.int .i64 j∧Hid (St w bb wr [(b4,(sZ za zb v i j).map L,419),(bY,zb.map L,419),(bx,za.map L,419),(b2,(wh 5 (0:UInt32)).map W,410),(b1,(numOf m).map W,410),(bb,(numOf n).map W,410)])) (fun c _=>5 - (intOf c).toNat)
   case atStart=>exact ⟨0,by omega,rfl,HS⟩
   case round =>
    clear HS
    obtain ⟨j,hj,rfl,HS⟩:=hrel
    by_cases hlj:j < 5
    ·have HRL:=znq (show (sZ za zb v i j).length=5 from by rw [Yz];exact HTL.znr)
     obtain ⟨s,hs⟩:∃ s,s=i+j:=⟨_,rfl⟩
     obtain ⟨r,hr⟩:∃ r,r=s % 5:=⟨_,rfl⟩
     have e1:(i:Int)+(j:Int)=(s:Int):=by omega
     have e2:(s:Int).tmod 5=(r:Int):=by rw [Int.tmod_eq_emod_of_nonneg (by omega),hr];simp
     have hr5:r < 5:=by omega
     have hs9:s≤9:=by omega
     have HST:=znq (show (sZ za zb v i j).set r (zy (at64 (sZ za zb v i j) r) (zS za zb i j))=sZ za zb v i (j+1)∧True from ⟨by rw [sZ,zf3,hr,hs],trivial⟩)
     obtain ⟨un,hun⟩:∃ t,t=sZ za zb v i (j+1):=⟨_,rfl⟩
     rw [← hun] at HST
     have HU:=znq (show sZ za zb v i (j+1)=un∧True from ⟨hun.symm,trivial⟩)
     clear hun
     generalize sZ za zb v i j=u at *
     have hc0:=fun (x:zG wr.drew)=>((HS.znr.get 2 rfl).drew.below x.later (HS.znr.get 2 rfl).drew.lt).cell i _ (yz (z9 (l:=za) (i:=i) (by rw [HZA.znr.2];exact hlt)))
     have hc1:=fun (x:zG wr.drew)=>((HS.znr.get 1 rfl).drew.below x.later (HS.znr.get 1 rfl).drew.lt).cell j _ (yz (z9 (l:=zb) (i:=j) (by rw [HZB.znr.2];exact hlj)))
     have HSR:=znq (show s=i+j∧True from ⟨hs,trivial⟩)
     clear hr hs
     go_wp2_with fail
     refine zn [0,1,2,3,4,5,6,7] (by kernel_rfl) (by kernel_rfl) ?_
     rintro w12 rfl
     refine mqR ?_
     refine zo ?_
     clear hc0 hc1
     have HS:=znq HS.znr.drew
     generalize wr.drew=wd at *
     have hc:=(HS.znr.get 0 rfl).cell r _ (yz (z9 (l:=u) (i:=r) (by rw [HRL.znr];exact hr5)))
     by_cases h5:5≤s
     ·have d5:decide ((s:Int)≥5)=true:=by simp;omega
      have d6:decide (5≤(s:Int))=true:=by simp;omega
      have HTE:=znq (show zS za zb i j=xP (xP (at64 za i) (at64 zb j)) 5∧True from ⟨by unfold zS;rw [if_pos (by have:=HSR.znr.1;omega)],trivial⟩)
      rw [HTE.znr.1] at HST
      go_wp2_with (refine (HS.znr.get 0 rfl).ry (i:=r) (v:=L (zy (at64 u r) (xP (xP (at64 za i) (at64 zb j)) 5))) rfl rfl rfl rfl zR rfl rfl (by rw [yf,HRL.znr];exact hr5) ?_)
      intro w13 hb ho
      rw [y7,HST.znr.1,← HU.znr.1] at hb
      have HS:=znq (HS.znr.change 0 hb ho (by omega) (by simp;omega))
      clear hb ho hc
      go_wp2
      go_roundw
      case rel=>exact ⟨j+1,by omega,by go_num,HS⟩
      case measure=>simp [intOf];omega
     ·have d5:decide ((s:Int)≥5)=false:=by simp;omega
      have d6:decide (5≤(s:Int))=false:=by simp;omega
      have HTE:=znq (show zS za zb i j=xP (at64 za i) (at64 zb j)∧True from ⟨by unfold zS;rw [if_neg (by have:=HSR.znr.1;omega)],trivial⟩)
      rw [HTE.znr.1] at HST
      go_wp2_with (refine (HS.znr.get 0 rfl).ry (i:=r) (v:=L (zy (at64 u r) (xP (at64 za i) (at64 zb j)))) rfl rfl rfl rfl zR rfl rfl (by rw [yf,HRL.znr];exact hr5) ?_)
      intro w13 hb ho
      rw [y7,HST.znr.1,← HU.znr.1] at hb
      have HS:=znq (HS.znr.change 0 hb ho (by omega) (by simp;omega))
      clear hb ho hc
      go_wp2
      go_roundw
      case rel=>exact ⟨j+1,by omega,by go_num,HS⟩
      case measure=>simp [intOf];omega
    ·obtain rfl:j=5:=by omega
     rw [← HTN.znr.1,← HT.znr.1] at HS
     go_wp2
     go_roundw
     case rel=>exact ⟨i+1,by omega,by go_num,HS⟩
     case measure=>simp [intOf];omega
  ·obtain rfl:i=5:=by omega
   have HTL:=znq (show ((pz za zb [0,0,0,0,0] 5).map L).length=5 from by rw [yf,wZ];rfl)
   generalize pz za zb [0,0,0,0,0] 5=v at *
   go_wp2_with (refine (HS.znr.get 0 rfl).mP rfl rfl rfl zJ HTL.znr ?_)
   refine (KQ v _ HLO.znr).mono ?_
   rintro e w14 ⟨rfl,hbel⟩
   rw [HVA.znr.1]
   have HS:=znq (HS.znr.later hbel)
   clear hbel
   go_wp2_with (refine (HS.znr.get 3 rfl).mM rfl rfl rfl (cs:=(numOf (n*m % PP)).map W) rfl zP rfl rfl (yT _) ?_)
   intro w15 zbK zbL
   have HE:=znq (zk HS.znr.bel zbL (by omega))
   clear zbL
   go_wp2
   refine zbK.result rfl rfl rfl zP rfl ⟨rfl,?_⟩
   rw [HBB.znr]
   exact HE.znr
end Go.Proofs.YtamdifhibogdiaaGreatDoor

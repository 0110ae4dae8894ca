/-
  Texts of this claim, one behind the other.
-/
import Derived.Test.YtamdifhibogdiaaGreatDoorX1
import Derived.Test.YtamdifhibogdiaaGreatDoorX4
import Derived.Test.YtamdifhibogdiaaGreatDoorX8
import Derived.Test.YtamdifhibogdiaaGreatDoorTie
import Derived.Test.YtamdifhibogdiaaGreatDoorX26
import Derived.Test.YtamdifhibogdiaaGreatDoorX10
import Derived.ProofKit
import Derived.LaidMore
import Derived.OpenShut
import Derived.Stop.Joined
import Derived.Lib.SmallJoins
import Derived.Lib.Hide
set_option linter.unusedVariables false
set_option linter.unusedSimpArgs false
set_option maxHeartbeats 16000000
set_option maxRecDepth 100000
open Array renaming length_toList→dE
open List renaming getElem?_eq_none→qc,getElem?_map→uV,length→fq,mem_append_left→uN,mem_append_right→bG
open Nat renaming add_mul→uZ
open Option renaming map_some→cB,some.inj→uQ
namespace Go.Proofs.YtamdifhibogdiaaGreatDoor
open RowKit Mem Ops Cells Trn Blake ChangeShapes WideShapes
def laid4:List (String×DataW Unit):=[("wringer/blake.first",Rows.laid_wringer_blake_first),("wringer/blake.rows",Rows.laid_wringer_blake_rows),("wringer/turn.mixes",Rows.laid_wringer_turn_mixes),("wringer/turn.unmixes",Rows.laid_wringer_turn_unmixes)]
theorem zhI:Tryz.prog.globalNamed "wringer/turn.mixes"=some 0:=by kernel_rfl
theorem zll:Tryz.prog.globalNamed "wringer/turn.unmixes"=some 1:=by kernel_rfl
theorem zhJ:Tryz.prog.globalNamed "wringer/blake.first"=some 5:=by kernel_rfl
theorem zlN:Tryz.prog.globalNamed "wringer/blake.rows"=some 8:=by kernel_rfl
theorem zhK:(Tryz.prog.globals[0]?).map (·.type)=some 161:=by kernel_rfl
theorem zlm:(Tryz.prog.globals[1]?).map (·.type)=some 161:=by kernel_rfl
theorem zhL:(Tryz.prog.globals[5]?).map (·.type)=some 333:=by kernel_rfl
theorem zlO:(Tryz.prog.globals[8]?).map (·.type)=some 374:=by kernel_rfl
section
variable {H:Type} {enc:TypeId×Value→H} {P:Program} {w:World} {base:Nat} {spare:Nat→Bool} {held:Bool}
theorem vD {t e:TypeId} {fuel n:Nat} {k:IntKind} {cs:List Value} {l:List Int} {p:List MemPlace}
  (ht:P.underlying t=some (.array n e)) (he:P.underlying e=some (.int k)) (hce:P.cellsOf e=1) (hct:P.cellsOf t=n)
  (h:DataW.trod enc P w base spare held fuel t cs=some (.agg (l.map fun i=>.lit (.int k i)),p)):cs=l.map (.int k ·):=by
 obtain ⟨xs,m,_,hx,hlen,hn,hel⟩:=DataW.trod_array ht h
 rw [hct] at hlen
 simp only [Prod.mk.injEq,DataW.agg.injEq] at hx
 have hll:l.length=n:=by have:=congrArg fq hx.1;simpa [hn] using this
 apply List.ext_getElem?
 intro i
 by_cases hi:i < n
 ·have h1:=hel i hi
  have hxi:∃ x,xs[i]? = some x:=⟨xs[i]'(by omega),by simp⟩
  obtain ⟨x,hxi⟩:=hxi
  rw [hxi,hce,Nat.mul_one] at h1
  obtain ⟨n0,e0,r0,_⟩:=DataW.trod_int he h1
  have h2:=congrArg (fun (q:List (DataW H))=>q[i]?) hx.1
  simp only [uV,hxi,cB,r0] at h2
  have hc:cs[i]? = some (.int k n0):=by
   have:=congrArg (fun q:List Value=>q[0]?) e0
   simpa [List.getElem?_take,List.getElem?_drop] using this
  rw [hc,uV]
  cases hli:l[i]? with
  | none=>rw [hli] at h2;simp at h2
  | some y=>rw [hli] at h2;simp at h2;simp [h2]
 ·rw [qc (by omega),qc (by simp;omega)]
theorem pieces {n:Nat} {g:List Int→List Value}:∀ (ll:List (List Int)) (cs:List Value),cs.length=ll.length*n→(∀ i l,ll[i]? = some l→(cs.drop (i*n)).take n=g l)→cs=(ll.map g).flatten
 | [],cs,h,_=>by
  have:cs=[]:=List.eq_nil_of_length_eq_zero (by simpa using h)
  simp [this]
 | l::ll,cs,h,hg=>by
  have h0:=hg 0 l rfl
  simp only [Nat.zero_mul,List.drop_zero] at h0
  have hr:=pieces (n:=n) ll (cs.drop n) (by rw [List.length_drop,h,List.length_cons,uZ];omega) (fun i l' hl=>by
   have:=hg (i+1) l' (by simpa using hl)
   rw [List.drop_drop]
   rw [uZ,Nat.one_mul,Nat.add_comm] at this
   exact this)
  rw [List.map_cons,List.flatten_cons,← hr,← h0,List.take_append_drop]
theorem za5 {t t1 e:TypeId} {fuel m n:Nat} {k:IntKind} {cs:List Value} {ll:List (List Int)} {p:List MemPlace}
  (ht:P.underlying t=some (.array m t1)) (ht1:P.underlying t1=some (.array n e)) (he:P.underlying e=some (.int k)) (hce:P.cellsOf e=1) (hct1:P.cellsOf t1=n) (hct:P.cellsOf t=m*n)
  (h:DataW.trod enc P w base spare held fuel t cs=some (.agg (ll.map fun l=>.agg (l.map fun i=>.lit (.int k i))),p)):cs=(ll.map fun l=>l.map (.int k ·)).flatten:=by
 obtain ⟨xs,f,_,hx,hlen,hn,hel⟩:=DataW.trod_array ht h
 rw [hct] at hlen
 simp only [Prod.mk.injEq,DataW.agg.injEq] at hx
 have hll:ll.length=m:=by have:=congrArg fq hx.1;simpa [hn] using this
 refine pieces (n:=n) ll cs (by rw [hlen,hll]) fun i l hl=>?_
 have hi:i < m:=by rw [← hll];exact (List.getElem?_eq_some_iff.1 hl).1
 have h1:=hel i hi
 obtain ⟨x,hxi⟩:∃ x,xs[i]? = some x:=⟨xs[i]'(by omega),by simp⟩
 rw [hxi,hct1] at h1
 have h2:=congrArg (fun (q:List (DataW H))=>q[i]?) hx.1
 simp only [uV,hxi,cB,hl] at h2
 obtain ⟨x1,x2⟩:=x
 simp only [Option.some.injEq] at h2
 subst h2
 exact vD ht1 he hce hct1 h1
end
theorem ZX {P:Program} {w:World} {n:String} {g:Nat} {cs:Array Value} {vs:List Value} (hg:P.globalNamed n=some g) (hv:w.var? P n=some cs) (hcs:cs.toList=vs)
  (hz:∃ c t,w.heap[g]? = some (.cells c t (0,0))):Blk w g vs (sj w g):=by
 obtain ⟨c,t,hb⟩:=hz
 have h1:cs=c:=by
  simp only [World.var?,hg,Option.bind_some,hb] at hv
  exact (uQ hv).symm
 subst h1
 unfold Blk sj
 rw [hb,← hcs]
theorem zix {W:World} (h:laidMetH Tryz.prog laid4 W):pQ W∧qD W:=by
 rw [MakeChecks.laidMetH_plain _ _ _ (by kernel_rfl)] at h
 obtain ⟨ps,⟨g0,t0,cs0,f0,p0,q0,hg0,ht0,hv0,hd0,⟨g1,t1,cs1,f1,p1,q1,hg1,ht1,hv1,hd1,⟨g2,t2,cs2,f2,p2,q2,hg2,ht2,hv2,hd2,⟨g3,t3,cs3,f3,p3,q3,hg3,ht3,hv3,hd3,_,e3⟩,e2⟩,e1⟩,e0⟩,_,hz⟩:=h
 obtain rfl:=uQ (zhJ.symm.trans hg0)
 obtain rfl:=uQ (zlN.symm.trans hg1)
 obtain rfl:=uQ (zhI.symm.trans hg2)
 obtain rfl:=uQ (zll.symm.trans hg3)
 obtain rfl:=uQ (zhL.symm.trans ht0)
 obtain rfl:=uQ (zlO.symm.trans ht1)
 obtain rfl:=uQ (zhK.symm.trans ht2)
 obtain rfl:=uQ (zlm.symm.trans ht3)
 have c0:cs0.toList=wN.map L:=(vD (n:=8) (e:=60) (k:=.u64) (l:=wN.map fun x=>(x.toNat:Int)) (by kernel_rfl) (by kernel_rfl) (by kernel_rfl) (by kernel_rfl) hd0).trans (by kernel_rfl)
 have c1:cs1.toList=zbu.map B:=(za5 (m:=10) (n:=16) (t1:=59) (e:=5) (k:=.u8) (ll:=(List.range 10).map fun i=>((zbu.drop (16*i)).take 16).map fun x=>(x.toNat:Int)) (by kernel_rfl) (by kernel_rfl) (by kernel_rfl) (by kernel_rfl) (by kernel_rfl) (by kernel_rfl) hd1).trans (by kernel_rfl)
 have c2:cs2.toList=_:=vD (n:=4) (k:=.u8) (l:=[2,3,1,1]) Tryz.underlying161 Tryz.underlying5 (by kernel_rfl) (by kernel_rfl) hd2
 have c3:cs3.toList=_:=vD (n:=4) (k:=.u8) (l:=[14,11,13,9]) Tryz.underlying161 Tryz.underlying5 (by kernel_rfl) (by kernel_rfl) hd3
 have s0:cs0.size=8:=by rw [← dE,c0];rfl
 have s1:cs1.size=160:=by rw [← dE,c1];rfl
 have s2:cs2.size=4:=by rw [← dE,c2];rfl
 have s3:cs3.size=4:=by rw [← dE,c3];rfl
 refine ⟨⟨ZX hg2 hv2 c2 (hz 0 0 ?_).1,ZX hg3 hv3 c3 (hz 1 0 ?_).1⟩,⟨ZX hg0 hv0 c0 (hz 5 0 ?_).1,ZX hg1 hv1 c1 (hz 8 0 ?_).1⟩⟩
 ·rw [e0,e1,e2,s2]
  exact bG _ (bG _ (uN _ (uN _ (MemPlace.mem_row.2 ⟨0,by omega,rfl⟩))))
 ·rw [e0,e1,e2,e3,s3]
  exact bG _ (bG _ (bG _ (uN _ (uN _ (MemPlace.mem_row.2 ⟨0,by omega,rfl⟩)))))
 ·rw [e0,s0]
  exact uN _ (uN _ (MemPlace.mem_row.2 ⟨0,by omega,rfl⟩))
 ·rw [e0,e1,s1]
  exact bG _ (uN _ (uN _ (MemPlace.mem_row.2 ⟨0,by omega,rfl⟩)))
theorem door_met (os:Os) (args:Array Value):laidMetH Tryz.prog laid4 ((World.doorLaid Tryz.prog 300 os).forCall (fun _ _=>0) ⟨#[],args,[]⟩).memory :=
 laidMetH_of_parts3 (fuel:=8) (laidMet_of_run' 8 (by kernel_rfl) (by kernel_rfl)) (by kernel_rfl) (by kernel_rfl)
end Go.Proofs.YtamdifhibogdiaaGreatDoor
namespace Go.Joins
open ChangeShapes WideShapes RowKit Deep WideElems Maps
variable {H:Type} {enc:TypeId×Value→H} {P:Program} {w:World} {base:Nat} {spare:Nat→Bool} {held:Bool}
theorem zhM {α:Type} {cs:Array α} (h:cs.size=5):∃ c0 c1 c2 c3 c4,cs=#[c0,c1,c2,c3,c4]:=by
 obtain ⟨l⟩:=cs
 match l,h with
 | [c0,c1,c2,c3,c4],_=>exact ⟨c0,c1,c2,c3,c4,rfl⟩
end Go.Joins
namespace Go.Joins
open ChangeShapes WideShapes RowKit Deep WideElems Maps
variable {H:Type} {enc:TypeId×Value→H} {P:Program} {w:World} {base:Nat} {spare:Nat→Bool} {held:Bool}
end Go.Joins
namespace Go.Open
open RowKit Mem Ops Cells Oct ChangeShapes WideShapes
theorem byte_wf {n:Int} (h:(Lit.int .u8 n).wf=true):∃ x:UInt8,n=(x.toNat:Int):=by
 have hb:0≤n∧n≤255:=by simpa [Lit.wf,IntKind.min,IntKind.max,IntKind.signed,IntKind.bits] using h
 refine ⟨UInt8.ofNat n.toNat,?_⟩
 rw [UInt8.toNat_ofNat_of_lt' (by show _ < 256;omega)]
 omega
end Go.Open
namespace Go.Joins
open ChangeShapes WideShapes RowKit Deep WideElems Maps
variable {H:Type} {enc:TypeId×Value→H} {P:Program} {w:World} {base:Nat} {spare:Nat→Bool} {held:Bool}
theorem open_twice {r:Reach} {b0:Nat} {t:TypeId} {f0 f1 f2 f3:Field} {v:Value} {d:DataW H} {p:List MemPlace} (hs:P.underlying t=some (.struct #[f0,f1,f2,f3])) (hC:P.cellsOf t=5)
  (h0:f0.offset=0∧P.cellsOf f0.type=2) (h1:f1.offset=2∧P.cellsOf f1.type=1) (h2:f2.offset=3∧P.cellsOf f2.type=1) (h3:f3.offset=4∧P.cellsOf f3.type=1)
  (hv:Value.okWide P w r b0 t v) (h:DataW.Trod enc P w base spare held t v d p) :
  ∃ (v0 v1 v2 v3 v4:Value) (y0 y1 y2 y3:DataW H×List MemPlace) (n:Nat),v=.agg #[v0,v1,v2,v3,v4] ∧
   DataW.trod enc P w base spare held n f0.type [v0,v1]=some y0∧DataW.trod enc P w base spare held n f1.type [v2]=some y1∧DataW.trod enc P w base spare held n f2.type [v3]=some y2∧DataW.trod enc P w base spare held n f3.type [v4]=some y3:=by
 obtain ⟨cs,rfl,hsz⟩:=okWide_struct hs hv
 obtain ⟨c0,c1,c2,c3,c4,rfl⟩:=zhM (hsz.trans hC)
 obtain ⟨fuel,hf⟩:=h
 obtain ⟨xs,n,_,hx,hl,hlen,hfs⟩:=DataW.trod_struct hs hf
 match xs,hlen,hx,hfs with
 | [y0,y1,y2,y3],_,hx,hfs =>
  have g0:=hfs 0 f0 rfl
  have g1:=hfs 1 f1 rfl
  have g2:=hfs 2 f2 rfl
  have g3:=hfs 3 f3 rfl
  exact ⟨c0,c1,c2,c3,c4,y0,y1,y2,y3,n,rfl,by simpa [Value.cells,h0.1,h0.2] using g0,by simpa [Value.cells,h1.1,h1.2] using g1,by simpa [Value.cells,h2.1,h2.2] using g2,by simpa [Value.cells,h3.1,h3.2] using g3⟩
theorem open_lock {t:TypeId} {f0 f1:Field} {fuel:Nat} {v0 v1:Value} {x:DataW H×List MemPlace} (hs:P.underlying t=some (.struct #[f0,f1]))
  (h0:f0.offset=0∧P.cellsOf f0.type=1) (h1:f1.offset=1∧P.cellsOf f1.type=1) (h:DataW.trod enc P w base spare held fuel t [v0,v1]=some x) :
  ∃ (n:Nat) (y0 y1:DataW H×List MemPlace),DataW.trod enc P w base spare held n f0.type [v0]=some y0∧DataW.trod enc P w base spare held n f1.type [v1]=some y1:=by
 obtain ⟨xs,n,_,rfl,hl,hlen,hfs⟩:=DataW.trod_struct hs h
 have g0:=hfs 0 f0 rfl
 have g1:=hfs 1 f1 rfl
 match xs,hlen,g0,g1 with
 | [y0,y1],_,g0,g1 =>
  exact ⟨n,y0,y1,by simpa [h0.1,h0.2] using g0,by simpa [h1.1,h1.2] using g1⟩
end Go.Joins

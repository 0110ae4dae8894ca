/-
  Texts of this claim, one behind the other.
-/
import Derived.Test.YtjaioajjfiaheaaGreatDoorR4
import Derived.Test.YtjaioajjfiaheaaGreatDoorR8
import Derived.Test.YtjaioajjfiaheaaGreatDoorTie
import Derived.Test.YtjaioajjfiaheaaGreatDoorR5
import Derived.Test.YtjaioajjfiaheaaGreatDoorR1
import Derived.Test.YtjaioajjfiaheaaGreatDoorR10
import Derived.ProofKit
import Derived.LaidMore
import Derived.OpenShut
import Derived.Stop.Joined
import Derived.Deep.Slices
import Derived.ChangeArms
import Derived.ChangeSlices
import Derived.ChangeShapes
import Derived.Lib.SmallJoins
import Derived.Lib.Hide
set_option linter.unusedVariables false
set_option linter.unusedSimpArgs false
set_option maxHeartbeats 16000000
set_option maxRecDepth 100000
namespace Go.Proofs.YtjaioajjfiaheaaGreatDoor
open Go.RowKit Go.Mem Go.Ops Go.Cells Go.Trn Go.Blake Go.ChangeShapes Go.WideShapes
def laid4:List (String×DataW Unit):=[("wringer/blake.first",Rows.laid_wringer_blake_first),("wringer/blake.rows",Rows.laid_wringer_blake_rows),("wringer/turn.mixes",Rows.laid_wringer_turn_mixes),("wringer/turn.unmixes",Rows.laid_wringer_turn_unmixes)]
theorem gMixes:Tryz.prog.globalNamed "wringer/turn.mixes"=some 0:=by kernel_rfl
theorem zll:Tryz.prog.globalNamed "wringer/turn.unmixes"=some 1:=by kernel_rfl
theorem gFirst:Tryz.prog.globalNamed "wringer/blake.first"=some 2:=by kernel_rfl
theorem gRows:Tryz.prog.globalNamed "wringer/blake.rows"=some 3:=by kernel_rfl
theorem tMixes:(Tryz.prog.globals[0]?).map (·.type)=some 155:=by kernel_rfl
theorem zlm:(Tryz.prog.globals[1]?).map (·.type)=some 155:=by kernel_rfl
theorem tFirst:(Tryz.prog.globals[2]?).map (·.type)=some 249:=by kernel_rfl
theorem tRows:(Tryz.prog.globals[3]?).map (·.type)=some 265:=by kernel_rfl
section
variable {H:Type} {enc:TypeId×Value→H} {P:Program} {w:World} {base:Nat} {spare:Nat→Bool} {held:Bool}
theorem vD {t e:TypeId} {fuel n:Nat} {k:IntKind} {cs:List Value} {l:List Int} {p:List MemPlace}
  (ht:P.underlying t=some (.array n e)) (he:P.underlying e=some (.int k)) (hce:P.cellsOf e=1) (hct:P.cellsOf t=n)
  (h:DataW.trod enc P w base spare held fuel t cs=some (.agg (l.map fun i=>.lit (.int k i)),p)):cs=l.map (.int k ·):=by
 obtain ⟨xs,m,_,hx,hlen,hn,hel⟩:=DataW.trod_array ht h
 rw [hct] at hlen
 simp only [Prod.mk.injEq,DataW.agg.injEq] at hx
 have hll:l.length=n:=by have:=congrArg List.length hx.1;simpa [hn] using this
 apply List.ext_getElem?
 intro i
 by_cases hi:i < n
 ·have h1:=hel i hi
  have hxi:∃ x,xs[i]? = some x:=⟨xs[i]'(by omega),by simp⟩
  obtain ⟨x,hxi⟩:=hxi
  rw [hxi,hce,Nat.mul_one] at h1
  obtain ⟨n0,e0,r0,_⟩:=DataW.trod_int he h1
  have h2:=congrArg (fun (q:List (DataW H))=>q[i]?) hx.1
  simp only [List.getElem?_map,hxi,Option.map_some,r0] at h2
  have hc:cs[i]? = some (.int k n0):=by
   have:=congrArg (fun q:List Value=>q[0]?) e0
   simpa [List.getElem?_take,List.getElem?_drop] using this
  rw [hc,List.getElem?_map]
  cases hli:l[i]? with
  | none=>rw [hli] at h2;simp at h2
  | some y=>rw [hli] at h2;simp at h2;simp [h2]
 ·rw [List.getElem?_eq_none (by omega),List.getElem?_eq_none (by simp;omega)]
theorem pieces {n:Nat} {g:List Int→List Value}:∀ (ll:List (List Int)) (cs:List Value),cs.length=ll.length*n→(∀ i l,ll[i]? = some l→(cs.drop (i*n)).take n=g l)→cs=(ll.map g).flatten
 | [],cs,h,_=>by
  have:cs=[]:=List.eq_nil_of_length_eq_zero (by simpa using h)
  simp [this]
 | l::ll,cs,h,hg=>by
  have h0:=hg 0 l rfl
  simp only [Nat.zero_mul,List.drop_zero] at h0
  have hr:=pieces (n:=n) ll (cs.drop n) (by rw [List.length_drop,h,List.length_cons,Nat.add_mul];omega) (fun i l' hl=>by
   have:=hg (i+1) l' (by simpa using hl)
   rw [List.drop_drop]
   rw [Nat.add_mul,Nat.one_mul,Nat.add_comm] at this
   exact this)
  rw [List.map_cons,List.flatten_cons,← hr,← h0,List.take_append_drop]
theorem za5 {t t1 e:TypeId} {fuel m n:Nat} {k:IntKind} {cs:List Value} {ll:List (List Int)} {p:List MemPlace}
  (ht:P.underlying t=some (.array m t1)) (ht1:P.underlying t1=some (.array n e)) (he:P.underlying e=some (.int k)) (hce:P.cellsOf e=1) (hct1:P.cellsOf t1=n) (hct:P.cellsOf t=m*n)
  (h:DataW.trod enc P w base spare held fuel t cs=some (.agg (ll.map fun l=>.agg (l.map fun i=>.lit (.int k i))),p)):cs=(ll.map fun l=>l.map (.int k ·)).flatten:=by
 obtain ⟨xs,f,_,hx,hlen,hn,hel⟩:=DataW.trod_array ht h
 rw [hct] at hlen
 simp only [Prod.mk.injEq,DataW.agg.injEq] at hx
 have hll:ll.length=m:=by have:=congrArg List.length hx.1;simpa [hn] using this
 refine pieces (n:=n) ll cs (by rw [hlen,hll]) fun i l hl=>?_
 have hi:i < m:=by rw [← hll];exact (List.getElem?_eq_some_iff.1 hl).1
 have h1:=hel i hi
 obtain ⟨x,hxi⟩:∃ x,xs[i]? = some x:=⟨xs[i]'(by omega),by simp⟩
 rw [hxi,hct1] at h1
 have h2:=congrArg (fun (q:List (DataW H))=>q[i]?) hx.1
 simp only [List.getElem?_map,hxi,Option.map_some,hl] at h2
 obtain ⟨x1,x2⟩:=x
 simp only [Option.some.injEq] at h2
 subst h2
 exact vD ht1 he hce hct1 h1
end
theorem ZX {P:Program} {w:World} {n:String} {g:Nat} {cs:Array Value} {vs:List Value} (hg:P.globalNamed n=some g) (hv:w.var? P n=some cs) (hcs:cs.toList=vs)
  (hz:∃ c t,w.heap[g]? = some (.cells c t (0,0))):Blk w g vs (tyAt w g):=by
 obtain ⟨c,t,hb⟩:=hz
 have h1:cs=c:=by
  simp only [World.var?,hg,Option.bind_some,hb] at hv
  exact (Option.some.inj hv).symm
 subst h1
 unfold Blk tyAt
 rw [hb,← hcs]
theorem zix {W:World} (h:laidMetH Tryz.prog laid4 W):Globals W∧qD W:=by
 rw [MakeChecks.laidMetH_plain _ _ _ (by kernel_rfl)] at h
 obtain ⟨ps,⟨g0,t0,cs0,f0,p0,q0,hg0,ht0,hv0,hd0,⟨g1,t1,cs1,f1,p1,q1,hg1,ht1,hv1,hd1,⟨g2,t2,cs2,f2,p2,q2,hg2,ht2,hv2,hd2,⟨g3,t3,cs3,f3,p3,q3,hg3,ht3,hv3,hd3,_,e3⟩,e2⟩,e1⟩,e0⟩,_,hz⟩:=h
 obtain rfl:=Option.some.inj (gFirst.symm.trans hg0)
 obtain rfl:=Option.some.inj (gRows.symm.trans hg1)
 obtain rfl:=Option.some.inj (gMixes.symm.trans hg2)
 obtain rfl:=Option.some.inj (zll.symm.trans hg3)
 obtain rfl:=Option.some.inj (tFirst.symm.trans ht0)
 obtain rfl:=Option.some.inj (tRows.symm.trans ht1)
 obtain rfl:=Option.some.inj (tMixes.symm.trans ht2)
 obtain rfl:=Option.some.inj (zlm.symm.trans ht3)
 have c0:cs0.toList=wN.map L:=(vD (n:=8) (e:=99) (k:=.u64) (l:=wN.map fun x=>(x.toNat:Int)) (by kernel_rfl) (by kernel_rfl) (by kernel_rfl) (by kernel_rfl) hd0).trans (by kernel_rfl)
 have c1:cs1.toList=zbu.map B:=(za5 (m:=10) (n:=16) (t1:=117) (e:=5) (k:=.u8) (ll:=(List.range 10).map fun i=>((zbu.drop (16*i)).take 16).map fun x=>(x.toNat:Int)) (by kernel_rfl) (by kernel_rfl) (by kernel_rfl) (by kernel_rfl) (by kernel_rfl) (by kernel_rfl) hd1).trans (by kernel_rfl)
 have c2:cs2.toList=_:=vD (n:=4) (k:=.u8) (l:=[2,3,1,1]) Tryz.underlying155 Tryz.underlying5 (by kernel_rfl) (by kernel_rfl) hd2
 have c3:cs3.toList=_:=vD (n:=4) (k:=.u8) (l:=[14,11,13,9]) Tryz.underlying155 Tryz.underlying5 (by kernel_rfl) (by kernel_rfl) hd3
 have s0:cs0.size=8:=by rw [← Array.length_toList,c0];rfl
 have s1:cs1.size=160:=by rw [← Array.length_toList,c1];rfl
 have s2:cs2.size=4:=by rw [← Array.length_toList,c2];rfl
 have s3:cs3.size=4:=by rw [← Array.length_toList,c3];rfl
 refine ⟨⟨ZX hg2 hv2 c2 (hz 0 0 ?_).1,ZX hg3 hv3 c3 (hz 1 0 ?_).1⟩,⟨ZX hg0 hv0 c0 (hz 2 0 ?_).1,ZX hg1 hv1 c1 (hz 3 0 ?_).1⟩⟩
 ·rw [e0,e1,e2,s2]
  exact List.mem_append_right _ (List.mem_append_right _ (List.mem_append_left _ (List.mem_append_left _ (MemPlace.mem_row.2 ⟨0,by omega,rfl⟩))))
 ·rw [e0,e1,e2,e3,s3]
  exact List.mem_append_right _ (List.mem_append_right _ (List.mem_append_right _ (List.mem_append_left _ (List.mem_append_left _ (MemPlace.mem_row.2 ⟨0,by omega,rfl⟩)))))
 ·rw [e0,s0]
  exact List.mem_append_left _ (List.mem_append_left _ (MemPlace.mem_row.2 ⟨0,by omega,rfl⟩))
 ·rw [e0,e1,s1]
  exact List.mem_append_right _ (List.mem_append_left _ (List.mem_append_left _ (MemPlace.mem_row.2 ⟨0,by omega,rfl⟩)))
theorem door_met (os:Os) (args:Array Value):laidMetH Tryz.prog laid4 ((World.doorLaid Tryz.prog 39 os).forCall (fun _ _=>0) ⟨#[],args,[]⟩).memory :=
 laidMetH_of_parts3 (fuel:=8) (laidMet_of_run' 8 (by kernel_rfl) (by kernel_rfl)) (by kernel_rfl) (by kernel_rfl)
end Go.Proofs.YtjaioajjfiaheaaGreatDoor
namespace Go.Open
open Go.RowKit Go.Mem Go.Ops Go.Cells Go.Oct Go.ChangeShapes Go.WideShapes
structure zln (n:Nat) (w:World) (ao:Option Addr) (vs:List (List Value)):Prop where
 each:∀ v∈vs,v.length=n
 lies:zr w ao vs.flatten
theorem zdx (n:Nat):∀ (vs:List (List Value)) (i j:Nat) (v:List Value),(∀ v∈vs,v.length=n)→vs[i]? = some v→j < n→vs.flatten[n*i+j]? = v[j]?
 | [],i,j,v,_,hi,_=>by cases hi
 | x::vs,0,j,v,hv,hi,hj=>by
  simp at hi;subst hi
  have:=hv x (by simp)
  rw [List.flatten_cons,Nat.mul_zero,Nat.zero_add,List.getElem?_append_left (by omega)]
 | x::vs,i+1,j,v,hv,hi,hj=>by
  have:=hv x (by simp)
  rw [List.getElem?_cons_succ] at hi
  rw [List.flatten_cons,List.getElem?_append_right (by rw [Nat.mul_succ];omega),this,show n*(i+1)+j - n=n*i+j by rw [Nat.mul_succ];omega]
  exact zdx n vs i j v (fun u hu=>hv u (List.mem_cons_of_mem _ hu)) hi hj
theorem zln.range {n:Nat} {w:World} {ao:Option Addr} {vs:List (List Value)} (h:zln n w ao vs) (hn:0 < n) {i:Nat} {v:List Value} (hi:vs[i]? = some v) :
  ∃ b off,ao=some ⟨b,off,none⟩∧b < w.heap.size∧w.rangeAt b (off+i*n) v:=by
 have hk:=h.each v (List.mem_of_getElem? hi)
 have hat:∀ j u,v[j]? = some u→vs.flatten[n*i+j]? = some u:=fun j u hu=>by
  have hj:j < n:=by
   rcases Nat.lt_or_ge j n with h | h
   ·exact h
   ·rw [List.getElem?_eq_none (by omega)] at hu;cases hu
  rw [zdx n vs i j v h.each hi hj]
  exact hu
 obtain ⟨b,off,rfl,hc⟩:=h.lies _ _ (hat 0 (v[0]'(by omega)) (by simp))
 refine ⟨b,off,rfl,block_lt_of_cell hc,fun j u hu=>?_⟩
 obtain ⟨b',off',e,hc'⟩:=h.lies _ _ (hat j u hu)
 cases e
 rw [show off+i*n+j=off+(n*i+j) by rw [Nat.mul_comm i n];omega]
 exact hc'
def Fit (n:Int):Prop:=-9223372036854775808≤n∧n≤9223372036854775807
theorem zp6 {H:Type} {enc:TypeId×Value→H} {P:Program} {w:World} {base:Nat} {spare:Nat→Bool} {held:Bool} {t e:TypeId} {fuel:Nat} {cs:List Value} {x:DataW H×List MemPlace}
  (ht:P.underlying t=some (.slice e)) (he:P.underlying e=some (.int .u8)) (hc:P.cellsOf e=1) (h:DataW.trod enc P w base spare held fuel t cs=some x) :
  ∃ (ao:Option Addr) (cap:Nat) (bs:List UInt8),cs=[.slice ao bs.length cap]∧bs.length≤cap∧cap≤maxLen∧zr w ao (bs.map B):=by
 rcases open_ints ht he hc h with ⟨rfl,_⟩ | ⟨x,l,c,zs,rfl,_,hl,hm,hz,_,hcell,hwz⟩
 ·exact ⟨none,0,[],rfl,Nat.le_refl _,by simp [maxLen],zr.nil _ _⟩
 ·have hz':l≤zs.length:=by rw [hz];split <;> omega
  obtain ⟨bs,h1,h2,h3,h4⟩:=Go.Mem.bytes_of_row (w:=w) (a:=some x) (len:=l) (cap:=zs.length) (zs:=zs)
   (.inr ⟨x,rfl,hz',by rw [hz];split <;> omega,rfl,hcell,hwz⟩)
  exact ⟨some x,c,bs,by rw [h1],by omega,hm,h4⟩
structure zdy where
 d:Int
 n:Int
 po:Option Addr
 pc:Nat
 p:List UInt8
 so:Option Addr
 sc:Nat
 s:List UInt8
def zdy.vals (x:zdy):List Value:=[.int .i64 x.d,.int .i64 x.n,.slice x.po x.p.length x.pc,.slice x.so x.s.length x.sc]
structure zdy.In (w:World) (x:zdy):Prop where
 d:Fit x.d
 n:Fit x.n
 p:zr w x.po (x.p.map B)
 s:zr w x.so (x.s.map B)
 pc:x.p.length≤x.pc∧x.pc≤maxLen
 sc:x.s.length≤x.sc∧x.sc≤maxLen
structure zlo (w:World) (ao:Option Addr) (xs:List zdy):Prop where
 rows:zln 4 w ao (xs.map zdy.vals)
 each:∀ x∈xs,x.In w
theorem zlo.at {w:World} {ao:Option Addr} {xs:List zdy} (h:zlo w ao xs) {i:Nat} {x:zdy} (hi:xs[i]? = some x) :
  x.In w∧∃ b off,ao=some ⟨b,off,none⟩∧b < w.heap.size∧w.rangeAt b (off+i*4) x.vals :=
 ⟨h.each x (List.mem_of_getElem? hi),h.rows.range (by omega) (by simp [hi])⟩
end Go.Open
namespace Go.Joins
open Go.ChangeShapes Go.WideShapes Go.RowKit Go.Deep Go.WideElems Go.Maps
variable {H:Type} {enc:TypeId×Value→H} {P:Program} {w:World} {base:Nat} {spare:Nat→Bool} {held:Bool}
end Go.Joins
namespace Go.Joins
open Go.ChangeShapes Go.WideShapes Go.RowKit Go.Deep Go.WideElems Go.Maps
variable {H:Type} {enc:TypeId×Value→H} {P:Program} {w:World} {base:Nat} {spare:Nat→Bool} {held:Bool}
theorem array6 {α:Type} {cs:Array α} (h:cs.size=6):∃ c0 c1 c2 c3 c4 c5,cs=#[c0,c1,c2,c3,c4,c5]:=by
 obtain ⟨l⟩:=cs
 match l,h with
 | [c0,c1,c2,c3,c4,c5],_=>exact ⟨c0,c1,c2,c3,c4,c5,rfl⟩
theorem open_agg6 {r:Reach} {b0:Nat} {t:TypeId} {f0 f1 f2 f3 f4 f5:Field} {v:Value} {d:DataW H} {p:List MemPlace} (hs:P.underlying t=some (.struct #[f0,f1,f2,f3,f4,f5])) (hone:oneCellFields P #[f0,f1,f2,f3,f4,f5]=true) (hC:P.cellsOf t=6)
  (hv:Value.okWide P w r b0 t v) (h:DataW.Trod enc P w base spare held t v d p) :
  ∃ (v0 v1 v2 v3 v4 v5:Value) (y0 y1 y2 y3 y4 l5y:DataW H×List MemPlace) (n:Nat),v=.agg #[v0,v1,v2,v3,v4,v5]∧d=.agg [y0.1,y1.1,y2.1,y3.1,y4.1,l5y.1]∧p=y0.2++(y1.2++(y2.2++(y3.2++(y4.2++l5y.2)))) ∧
   DataW.trod enc P w base spare held n f0.type [v0]=some y0∧DataW.trod enc P w base spare held n f1.type [v1]=some y1∧DataW.trod enc P w base spare held n f2.type [v2]=some y2∧DataW.trod enc P w base spare held n f3.type [v3]=some y3∧DataW.trod enc P w base spare held n f4.type [v4]=some y4∧DataW.trod enc P w base spare held n f5.type [v5]=some l5y:=by
 obtain ⟨cs,rfl,hsz⟩:=okWide_struct hs hv
 obtain ⟨c0,c1,c2,c3,c4,c5,rfl⟩:=array6 (hsz.trans hC)
 obtain ⟨fuel,hf⟩:=h
 obtain ⟨xs,n,_,hx,hl,hlen,hfs⟩:=DataW.trod_struct hs hf
 match xs,hlen,hx,hfs with
 | [y0,y1,y2,y3,y4,l5y],_,hx,hfs =>
  obtain ⟨o0,k0⟩:=hone_of hone 0 f0 rfl
  obtain ⟨o1,k1⟩:=hone_of hone 1 f1 rfl
  obtain ⟨o2,k2⟩:=hone_of hone 2 f2 rfl
  obtain ⟨o3,k3⟩:=hone_of hone 3 f3 rfl
  obtain ⟨o4,k4⟩:=hone_of hone 4 f4 rfl
  obtain ⟨o5,l5k⟩:=hone_of hone 5 f5 rfl
  simp only [Prod.mk.injEq] at hx
  have h0:=hfs 0 f0 rfl
  have h1:=hfs 1 f1 rfl
  have h2:=hfs 2 f2 rfl
  have h3:=hfs 3 f3 rfl
  have h4:=hfs 4 f4 rfl
  have h5:=hfs 5 f5 rfl
  exact ⟨c0,c1,c2,c3,c4,c5,y0,y1,y2,y3,y4,l5y,n,rfl,by simpa using hx.1,by simpa using hx.2,by simpa [Value.cells,o0,k0] using h0,by simpa [Value.cells,o1,k1] using h1,by simpa [Value.cells,o2,k2] using h2,by simpa [Value.cells,o3,k3] using h3,by simpa [Value.cells,o4,k4] using h4,by simpa [Value.cells,o5,l5k] using h5⟩
end Go.Joins
namespace Go.Open
open Go.RowKit Go.Mem Go.Ops Go.Cells Go.Oct Go.ChangeShapes Go.WideShapes
theorem open_strs {H:Type} {enc:TypeId×Value→H} {P:Program} {w:World} {base:Nat} {spare:Nat→Bool} {held:Bool} {t e u:TypeId} {fuel:Nat} {cs:List Value} {x:DataW H×List MemPlace}
  (ht:P.underlying t=some (.slice e)) (he:P.underlying e=some (.slice u)) (hu:P.underlying u=some (.int .u8)) (hC:P.cellsOf e=1) (hCu:P.cellsOf u=1) (h:DataW.trod enc P w base spare held fuel t cs=some x) :
  ∃ (ao:Option Addr) (cap:Nat) (ss:List Str),cs=[.slice ao ss.length cap]∧ss.length≤cap∧cap≤maxLen∧xY w ao ss:=by
 rcases Go.Deep.open_slice ht h with ⟨rfl,_⟩ | ⟨a,len,cap,m,n,D,Pl,rfl,hb,hl,hm,hmm,rfl,hx⟩
 ·exact ⟨none,0,[],rfl,Nat.le_refl _,by simp [maxLen],⟨zr.nil _ _,by simp⟩⟩
 have hlm:len≤m:=by rw [hmm];split <;> omega
 have each:∀ i,i < len→∃ s:Str,s.In w∧w.cell? (a.add i)=some s.val:=by
  intro i hi
  obtain ⟨cs',h1,h2⟩:=hx i (by omega)
  rw [hC] at h1
  obtain ⟨_,hlen,hcell⟩:=World.cells?_some h1
  obtain ⟨ao,cp,bs,rfl,hle,_,hlies⟩:=zp6 he hu hCu h2
  refine ⟨⟨ao,cp,bs⟩,⟨hle,hlies⟩,?_⟩
  have:=hcell 0 (by omega)
  simpa [Addr.add,Str.val] using this
 have:Inhabited Str:=⟨⟨none,0,[]⟩⟩
 obtain ⟨V,hV⟩:=Go.Deep.choose_lt each
 refine ⟨some a,cap,(List.range len).map V,by simp,by simpa using hl,hm,⟨?_,?_⟩⟩
 ·intro j z hz
  rw [List.getElem?_map,List.getElem?_map] at hz
  have hj:j < len:=by
   rcases Nat.lt_or_ge j len with h | h
   ·exact h
   ·rw [List.getElem?_eq_none (by simpa using h)] at hz;cases hz
  rw [List.getElem?_range hj] at hz
  simp only [Option.map_some,Option.some.injEq] at hz
  subst hz
  have h0:=(hV 0 (by omega)).2
  have hs:=World.cell?_spot h0
  have h2:=(hV j hj).2
  obtain ⟨b,off,sp⟩:=a
  have hs':sp=none:=by simpa [Addr.add] using hs
  subst hs'
  exact ⟨b,off,rfl,by rw [add_eq] at h2;exact h2⟩
 ·intro s hs
  obtain ⟨i,hi,rfl⟩:=List.mem_map.1 hs
  exact (hV i (List.mem_range.1 hi)).1
theorem byte_wf {n:Int} (h:(Lit.int .u8 n).wf=true):∃ x:UInt8,n=(x.toNat:Int):=by
 have hb:0≤n∧n≤255:=by simpa [Lit.wf,IntKind.min,IntKind.max,IntKind.signed,IntKind.bits] using h
 refine ⟨UInt8.ofNat n.toNat,?_⟩
 rw [UInt8.toNat_ofNat_of_lt' (by show _ < 256;omega)]
 omega
end Go.Open

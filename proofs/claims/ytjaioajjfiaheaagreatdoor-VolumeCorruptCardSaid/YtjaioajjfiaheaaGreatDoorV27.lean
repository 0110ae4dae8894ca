/-
  Texts of this claim, one behind the other.
-/
import Derived.Test.YtjaioajjfiaheaaGreatDoorV4
import Derived.Test.YtjaioajjfiaheaaGreatDoorV8
import Derived.Test.YtjaioajjfiaheaaGreatDoorTie
import Derived.Test.YtjaioajjfiaheaaGreatDoorV5
import Derived.Test.YtjaioajjfiaheaaGreatDoorV1
import Derived.Test.YtjaioajjfiaheaaGreatDoorV10
import Derived.Test.YtjaioajjfiaheaaGreatDoorV26
import Derived.Test.YtjaioajjfiaheaaGreatDoorV11
import Derived.ProofKit
import Derived.LaidMore
import Derived.OpenShut
import Derived.Stop.Joined
import Derived.Deep.Slices
import Derived.ChangeArms
import Derived.ChangeSlices
import Derived.ChangeShapes
import Derived.Lib.SmallJoins
import Derived.Lib.Hide
set_option linter.unusedVariables false
set_option linter.unusedSimpArgs false
set_option maxHeartbeats 16000000
set_option maxRecDepth 100000
open Array renaming getElem?_eq_some_iff→uJ,length_toList→dE
open List renaming cons.injEq→dZ,drop_succ_cons→fC,drop_zero→bL,flatten_cons→uF,getElem?_append_left→bO,getElem?_append_right→bM,getElem?_cons_succ→dC,getElem?_eq_none→qc,getElem?_map→uV,length→fq,length_append→q8,length_cons→uh,length_map→yf,map_cons→dI,map_nil→mh,mem_append_left→uN,mem_append_right→bG,mem_cons→uB,mem_cons_of_mem→ui,mem_map→ug,mem_of_getElem?→xU,mem_range→bW,range→uf,take_succ_cons→fD,take_zero→cO
open Nat renaming add_mul→uZ,div_add_mod→fu,div_lt_of_lt_mul→lv,le_refl→xc,le_trans→uj,lt_of_le_of_lt→cK,lt_or_ge→bg,mod_lt→ma,mul_comm→dG,mul_succ→fJ,mul_zero→mE,zero_add→bH,zero_le→gX,zero_mul→dQ
open Option renaming map_some→cB,some.inj→uQ
namespace Go.Proofs.YtjaioajjfiaheaaGreatDoor
open RowKit Mem Ops Cells Trn Blake ChangeShapes WideShapes
def laid4:List (String×DataW Unit):=[("wringer/blake.first",Rows.laid_wringer_blake_first),("wringer/blake.rows",Rows.laid_wringer_blake_rows),("wringer/turn.mixes",Rows.laid_wringer_turn_mixes),("wringer/turn.unmixes",Rows.laid_wringer_turn_unmixes)]
theorem zhI:Tryz.prog.globalNamed "wringer/turn.mixes"=some 0:=by kernel_rfl
theorem zll:Tryz.prog.globalNamed "wringer/turn.unmixes"=some 1:=by kernel_rfl
theorem zhJ:Tryz.prog.globalNamed "wringer/blake.first"=some 2:=by kernel_rfl
theorem zlN:Tryz.prog.globalNamed "wringer/blake.rows"=some 3:=by kernel_rfl
theorem zhK:(Tryz.prog.globals[0]?).map (·.type)=some 155:=by kernel_rfl
theorem zlm:(Tryz.prog.globals[1]?).map (·.type)=some 155:=by kernel_rfl
theorem zhL:(Tryz.prog.globals[2]?).map (·.type)=some 249:=by kernel_rfl
theorem zlO:(Tryz.prog.globals[3]?).map (·.type)=some 265:=by kernel_rfl
section
variable {H:Type} {enc:TypeId×Value→H} {P:Program} {w:World} {base:Nat} {spare:Nat→Bool} {held:Bool}
theorem vD {t e:TypeId} {fuel n:Nat} {k:IntKind} {cs:List Value} {l:List Int} {p:List MemPlace}
  (ht:P.underlying t=some (.array n e)) (he:P.underlying e=some (.int k)) (hce:P.cellsOf e=1) (hct:P.cellsOf t=n)
  (h:DataW.trod enc P w base spare held fuel t cs=some (.agg (l.map fun i=>.lit (.int k i)),p)):cs=l.map (.int k ·):=by
 obtain ⟨xs,m,_,hx,hlen,hn,hel⟩:=DataW.trod_array ht h
 rw [hct] at hlen
 simp only [Prod.mk.injEq,DataW.agg.injEq] at hx
 have hll:l.length=n:=by have:=congrArg fq hx.1;simpa [hn] using this
 apply List.ext_getElem?
 intro i
 by_cases hi:i < n
 ·have h1:=hel i hi
  have hxi:∃ x,xs[i]? = some x:=⟨xs[i]'(by omega),by simp⟩
  obtain ⟨x,hxi⟩:=hxi
  rw [hxi,hce,Nat.mul_one] at h1
  obtain ⟨n0,e0,r0,_⟩:=DataW.trod_int he h1
  have h2:=congrArg (fun (q:List (DataW H))=>q[i]?) hx.1
  simp only [uV,hxi,cB,r0] at h2
  have hc:cs[i]? = some (.int k n0):=by
   have:=congrArg (fun q:List Value=>q[0]?) e0
   simpa [List.getElem?_take,List.getElem?_drop] using this
  rw [hc,uV]
  cases hli:l[i]? with
  | none=>rw [hli] at h2;simp at h2
  | some y=>rw [hli] at h2;simp at h2;simp [h2]
 ·rw [qc (by omega),qc (by simp;omega)]
theorem pieces {n:Nat} {g:List Int→List Value}:∀ (ll:List (List Int)) (cs:List Value),cs.length=ll.length*n→(∀ i l,ll[i]? = some l→(cs.drop (i*n)).take n=g l)→cs=(ll.map g).flatten
 | [],cs,h,_=>by
  have:cs=[]:=List.eq_nil_of_length_eq_zero (by simpa using h)
  simp [this]
 | l::ll,cs,h,hg=>by
  have h0:=hg 0 l rfl
  simp only [dQ,bL] at h0
  have hr:=pieces (n:=n) ll (cs.drop n) (by rw [List.length_drop,h,uh,uZ];omega) (fun i l' hl=>by
   have:=hg (i+1) l' (by simpa using hl)
   rw [List.drop_drop]
   rw [uZ,Nat.one_mul,Nat.add_comm] at this
   exact this)
  rw [dI,uF,← hr,← h0,List.take_append_drop]
theorem za5 {t t1 e:TypeId} {fuel m n:Nat} {k:IntKind} {cs:List Value} {ll:List (List Int)} {p:List MemPlace}
  (ht:P.underlying t=some (.array m t1)) (ht1:P.underlying t1=some (.array n e)) (he:P.underlying e=some (.int k)) (hce:P.cellsOf e=1) (hct1:P.cellsOf t1=n) (hct:P.cellsOf t=m*n)
  (h:DataW.trod enc P w base spare held fuel t cs=some (.agg (ll.map fun l=>.agg (l.map fun i=>.lit (.int k i))),p)):cs=(ll.map fun l=>l.map (.int k ·)).flatten:=by
 obtain ⟨xs,f,_,hx,hlen,hn,hel⟩:=DataW.trod_array ht h
 rw [hct] at hlen
 simp only [Prod.mk.injEq,DataW.agg.injEq] at hx
 have hll:ll.length=m:=by have:=congrArg fq hx.1;simpa [hn] using this
 refine pieces (n:=n) ll cs (by rw [hlen,hll]) fun i l hl=>?_
 have hi:i < m:=by rw [← hll];exact (List.getElem?_eq_some_iff.1 hl).1
 have h1:=hel i hi
 obtain ⟨x,hxi⟩:∃ x,xs[i]? = some x:=⟨xs[i]'(by omega),by simp⟩
 rw [hxi,hct1] at h1
 have h2:=congrArg (fun (q:List (DataW H))=>q[i]?) hx.1
 simp only [uV,hxi,cB,hl] at h2
 obtain ⟨x1,x2⟩:=x
 simp only [Option.some.injEq] at h2
 subst h2
 exact vD ht1 he hce hct1 h1
end
theorem ZX {P:Program} {w:World} {n:String} {g:Nat} {cs:Array Value} {vs:List Value} (hg:P.globalNamed n=some g) (hv:w.var? P n=some cs) (hcs:cs.toList=vs)
  (hz:∃ c t,w.heap[g]? = some (.cells c t (0,0))):Blk w g vs (sj w g):=by
 obtain ⟨c,t,hb⟩:=hz
 have h1:cs=c:=by
  simp only [World.var?,hg,Option.bind_some,hb] at hv
  exact (uQ hv).symm
 subst h1
 unfold Blk sj
 rw [hb,← hcs]
theorem zix {W:World} (h:laidMetH Tryz.prog laid4 W):pQ W∧qD W:=by
 rw [MakeChecks.laidMetH_plain _ _ _ (by kernel_rfl)] at h
 obtain ⟨ps,⟨g0,t0,cs0,f0,p0,q0,hg0,ht0,hv0,hd0,⟨g1,t1,cs1,f1,p1,q1,hg1,ht1,hv1,hd1,⟨g2,t2,cs2,f2,p2,q2,hg2,ht2,hv2,hd2,⟨g3,t3,cs3,f3,p3,q3,hg3,ht3,hv3,hd3,_,e3⟩,e2⟩,e1⟩,e0⟩,_,hz⟩:=h
 obtain rfl:=uQ (zhJ.symm.trans hg0)
 obtain rfl:=uQ (zlN.symm.trans hg1)
 obtain rfl:=uQ (zhI.symm.trans hg2)
 obtain rfl:=uQ (zll.symm.trans hg3)
 obtain rfl:=uQ (zhL.symm.trans ht0)
 obtain rfl:=uQ (zlO.symm.trans ht1)
 obtain rfl:=uQ (zhK.symm.trans ht2)
 obtain rfl:=uQ (zlm.symm.trans ht3)
 have c0:cs0.toList=wN.map L:=(vD (n:=8) (e:=99) (k:=.u64) (l:=wN.map fun x=>(x.toNat:Int)) (by kernel_rfl) (by kernel_rfl) (by kernel_rfl) (by kernel_rfl) hd0).trans (by kernel_rfl)
 have c1:cs1.toList=zbu.map B:=(za5 (m:=10) (n:=16) (t1:=117) (e:=5) (k:=.u8) (ll:=(uf 10).map fun i=>((zbu.drop (16*i)).take 16).map fun x=>(x.toNat:Int)) (by kernel_rfl) (by kernel_rfl) (by kernel_rfl) (by kernel_rfl) (by kernel_rfl) (by kernel_rfl) hd1).trans (by kernel_rfl)
 have c2:cs2.toList=_:=vD (n:=4) (k:=.u8) (l:=[2,3,1,1]) Tryz.underlying155 Tryz.underlying5 (by kernel_rfl) (by kernel_rfl) hd2
 have c3:cs3.toList=_:=vD (n:=4) (k:=.u8) (l:=[14,11,13,9]) Tryz.underlying155 Tryz.underlying5 (by kernel_rfl) (by kernel_rfl) hd3
 have s0:cs0.size=8:=by rw [← dE,c0];rfl
 have s1:cs1.size=160:=by rw [← dE,c1];rfl
 have s2:cs2.size=4:=by rw [← dE,c2];rfl
 have s3:cs3.size=4:=by rw [← dE,c3];rfl
 refine ⟨⟨ZX hg2 hv2 c2 (hz 0 0 ?_).1,ZX hg3 hv3 c3 (hz 1 0 ?_).1⟩,⟨ZX hg0 hv0 c0 (hz 2 0 ?_).1,ZX hg1 hv1 c1 (hz 3 0 ?_).1⟩⟩
 ·rw [e0,e1,e2,s2]
  exact bG _ (bG _ (uN _ (uN _ (MemPlace.mem_row.2 ⟨0,by omega,rfl⟩))))
 ·rw [e0,e1,e2,e3,s3]
  exact bG _ (bG _ (bG _ (uN _ (uN _ (MemPlace.mem_row.2 ⟨0,by omega,rfl⟩)))))
 ·rw [e0,s0]
  exact uN _ (uN _ (MemPlace.mem_row.2 ⟨0,by omega,rfl⟩))
 ·rw [e0,e1,s1]
  exact bG _ (uN _ (uN _ (MemPlace.mem_row.2 ⟨0,by omega,rfl⟩)))
theorem door_met (os:Os) (args:Array Value):laidMetH Tryz.prog laid4 ((World.doorLaid Tryz.prog 39 os).forCall (fun _ _=>0) ⟨#[],args,[]⟩).memory :=
 laidMetH_of_parts3 (fuel:=8) (laidMet_of_run' 8 (by kernel_rfl) (by kernel_rfl)) (by kernel_rfl) (by kernel_rfl)
end Go.Proofs.YtjaioajjfiaheaaGreatDoor
namespace Go.Open
open RowKit Mem Ops Cells Oct ChangeShapes WideShapes
structure zln (n:Nat) (w:World) (ao:Option Addr) (vs:List (List Value)):Prop where
 each:∀ v∈vs,v.length=n
 lies:zr w ao vs.flatten
theorem zdx (n:Nat):∀ (vs:List (List Value)) (i j:Nat) (v:List Value),(∀ v∈vs,v.length=n)→vs[i]? = some v→j < n→vs.flatten[n*i+j]? = v[j]?
 | [],i,j,v,_,hi,_=>by cases hi
 | x::vs,0,j,v,hv,hi,hj=>by
  simp at hi;subst hi
  have:=hv x (by simp)
  rw [uF,mE,bH,bO (by omega)]
 | x::vs,i+1,j,v,hv,hi,hj=>by
  have:=hv x (by simp)
  rw [dC] at hi
  rw [uF,bM (by rw [fJ];omega),this,show n*(i+1)+j - n=n*i+j by rw [fJ];omega]
  exact zdx n vs i j v (fun u hu=>hv u (ui _ hu)) hi hj
theorem zmk (n:Nat):∀ vs:List (List Value),(∀ v∈vs,v.length=n)→vs.flatten.length=vs.length*n
 | [],_=>by simp
 | x::vs,hv=>by
  rw [uF,q8,hv x (by simp),zmk n vs (fun u hu=>hv u (ui _ hu)),uh,uZ]
  omega
theorem zln.nil (n:Nat) (w:World) (ao:Option Addr):zln n w ao []:=⟨by simp,zr.nil _ _⟩
theorem zln.range {n:Nat} {w:World} {ao:Option Addr} {vs:List (List Value)} (h:zln n w ao vs) (hn:0 < n) {i:Nat} {v:List Value} (hi:vs[i]? = some v) :
  ∃ b off,ao=some ⟨b,off,none⟩∧b < w.heap.size∧w.rangeAt b (off+i*n) v:=by
 have hk:=h.each v (xU hi)
 have hat:∀ j u,v[j]? = some u→vs.flatten[n*i+j]? = some u:=fun j u hu=>by
  have hj:j < n:=by
   rcases bg j n with h | h
   ·exact h
   ·rw [qc (by omega)] at hu;cases hu
  rw [zdx n vs i j v h.each hi hj]
  exact hu
 obtain ⟨b,off,rfl,hc⟩:=h.lies _ _ (hat 0 (v[0]'(by omega)) (by simp))
 refine ⟨b,off,rfl,block_lt_of_cell hc,fun j u hu=>?_⟩
 obtain ⟨b',off',e,hc'⟩:=h.lies _ _ (hat j u hu)
 cases e
 rw [show off+i*n+j=off+(n*i+j) by rw [dG i n];omega]
 exact hc'
theorem zrt {H:Type} {enc:TypeId×Value→H} {P:Program} {w:World} {base:Nat} {spare:Nat→Bool} {held:Bool} {t e:TypeId} {fs:Array Field} {fuel C:Nat} {cs:List Value} {x:DataW H×List MemPlace}
  (ht:P.underlying t=some (.slice e)) (he:P.underlying e=some (.struct fs)) (hC:P.cellsOf e=C) (hC0:0 < C) (h:DataW.trod enc P w base spare held fuel t cs=some x) :
  ∃ (ao:Option Addr) (len cap:Nat) (vs:List (List Value)),cs=[.slice ao len cap]∧vs.length=len∧len≤cap∧cap≤maxLen∧zln C w ao vs ∧
   ∀ v∈vs,∃ n,∀ (i:Nat) (f:Field),fs[i]? = some f→∃ y,DataW.trod enc P w base spare held n f.type ((v.drop f.offset).take (P.cellsOf f.type))=some y:=by
 rcases Go.Deep.open_slice ht h with ⟨rfl,_⟩ | ⟨a,len,cap,m,n,D,Pl,rfl,hb,hl,hm,hmm,rfl,hx⟩
 ·exact ⟨none,0,0,[],rfl,rfl,xc _,by simp [maxLen],zln.nil _ _ _,by simp⟩
 have hlm:len≤m:=by rw [hmm];split <;> omega
 have each:∀ i,i < len→∃ v:List Value,v.length=C∧(∀ j u,v[j]? = some u→w.cell? (a.add (i*C+j))=some u) ∧
   ∃ n,∀ (i:Nat) (f:Field),fs[i]? = some f→∃ y,DataW.trod enc P w base spare held n f.type ((v.drop f.offset).take (P.cellsOf f.type))=some y:=by
  intro i hi
  obtain ⟨cs',h1,h2⟩:=hx i (by omega)
  rw [hC] at h1
  obtain ⟨_,hlen,hcell⟩:=World.cells?_some h1
  obtain ⟨xs,k,hk,hxy,_,hxl,hf⟩:=DataW.trod_struct he h2
  refine ⟨cs',hlen,fun j u hu=>?_,k,fun i f hfi=>?_⟩
  ·have hj:j < C:=by
    rcases bg j C with h | h
    ·exact h
    ·rw [qc (by omega)] at hu;cases hu
   have:=hcell j hj
   rw [Go.Deep.add_add] at this
   rw [this,hu]
  ·have hi':i < xs.length:=by
    rw [hxl]
    exact (uJ.1 hfi).1
   refine ⟨xs[i],?_⟩
   rw [hf i f hfi]
   simp [hi']
 obtain ⟨V,hV⟩:=Go.Deep.choose_lt each
 refine ⟨some a,len,cap,(uf len).map V,rfl,by simp,hl,hm,⟨?_,?_⟩,?_⟩
 ·intro v hv
  obtain ⟨i,hi,rfl⟩:=ug.1 hv
  exact (hV i (bW.1 hi)).1
 ·intro j u hu
  have hev:∀ v∈(uf len).map V,v.length=C:=by
   intro v hv
   obtain ⟨i,hi,rfl⟩:=ug.1 hv
   exact (hV i (bW.1 hi)).1
  have hfl:((uf len).map V).flatten.length=len*C:=by
   rw [zmk C _ hev]
   simp
  have hj:j < len*C:=by
   rcases bg j (len*C) with h | h
   ·exact h
   ·rw [qc (by omega)] at hu;cases hu
  have hi:j / C < len:=lv (by rw [dG];exact hj)
  have hm':j % C < C:=ma _ hC0
  have hat:=zdx C _ (j / C) (j % C) (V (j / C)) hev (by simp [hi]) hm'
  rw [fu] at hat
  rw [hat] at hu
  have h2:=(hV _ hi).2.1 _ _ hu
  rw [show j / C*C+j % C=j by rw [dG];exact fu j C] at h2
  have zcG:0 < len:=cK (gX _) hi
  have hl0:=(hV 0 zcG).1
  have h0:=(hV 0 zcG).2.1 0 ((V 0)[0]'(by rw [hl0];exact hC0)) (by simp)
  rw [dQ] at h0
  have hs:=World.cell?_spot h0
  obtain ⟨b,off,sp⟩:=a
  have hs':sp=none:=by simpa [Addr.add] using hs
  subst hs'
  exact ⟨b,off,rfl,by rw [add_eq] at h2;exact h2⟩
 ·intro v hv
  obtain ⟨i,hi,rfl⟩:=ug.1 hv
  exact (hV i (bW.1 hi)).2.2
def Fit (n:Int):Prop:=-9223372036854775808≤n∧n≤9223372036854775807
theorem zq6 {n:Int} (h:(Lit.int .i64 n).wf=true):Fit n:=by
 have:-9223372036854775808≤n∧n≤9223372036854775807:=by simpa [Lit.wf,IntKind.min,IntKind.max,IntKind.signed,IntKind.bits] using h
 exact this
theorem open_bytes {H:Type} {enc:TypeId×Value→H} {P:Program} {w:World} {base:Nat} {spare:Nat→Bool} {held:Bool} {t e:TypeId} {fuel:Nat} {cs:List Value} {x:DataW H×List MemPlace}
  (ht:P.underlying t=some (.slice e)) (he:P.underlying e=some (.int .u8)) (hc:P.cellsOf e=1) (h:DataW.trod enc P w base spare held fuel t cs=some x) :
  ∃ (ao:Option Addr) (cap:Nat) (bs:List UInt8),cs=[.slice ao bs.length cap]∧bs.length≤cap∧cap≤maxLen∧zr w ao (bs.map B):=by
 rcases open_ints ht he hc h with ⟨rfl,_⟩ | ⟨x,l,c,zs,rfl,_,hl,hm,hz,_,hcell,hwz⟩
 ·exact ⟨none,0,[],rfl,xc _,by simp [maxLen],zr.nil _ _⟩
 ·have hz':l≤zs.length:=by rw [hz];split <;> omega
  obtain ⟨bs,h1,h2,h3,h4⟩:=Go.Mem.bytes_of_row (w:=w) (a:=some x) (len:=l) (cap:=zs.length) (zs:=zs)
   (.inr ⟨x,rfl,hz',by rw [hz];split <;> omega,rfl,hcell,hwz⟩)
  exact ⟨some x,c,bs,by rw [h1],by omega,hm,h4⟩
structure zdy where
 d:Int
 n:Int
 po:Option Addr
 pc:Nat
 p:List UInt8
 so:Option Addr
 sc:Nat
 s:List UInt8
def zdy.vals (x:zdy):List Value:=[.int .i64 x.d,.int .i64 x.n,.slice x.po x.p.length x.pc,.slice x.so x.s.length x.sc]
structure zdy.In (w:World) (x:zdy):Prop where
 d:Fit x.d
 n:Fit x.n
 p:zr w x.po (x.p.map B)
 s:zr w x.so (x.s.map B)
 pc:x.p.length≤x.pc∧x.pc≤maxLen
 sc:x.s.length≤x.sc∧x.sc≤maxLen
structure zlo (w:World) (ao:Option Addr) (xs:List zdy):Prop where
 rows:zln 4 w ao (xs.map zdy.vals)
 each:∀ x∈xs,x.In w
theorem zlo.at {w:World} {ao:Option Addr} {xs:List zdy} (h:zlo w ao xs) {i:Nat} {x:zdy} (hi:xs[i]? = some x) :
  x.In w∧∃ b off,ao=some ⟨b,off,none⟩∧b < w.heap.size∧w.rangeAt b (off+i*4) x.vals :=
 ⟨h.each x (xU hi),h.rows.range (by omega) (by simp [hi])⟩
theorem ztp {H:Type} {enc:TypeId×Value→H} {P:Program} {w:World} {base:Nat} {spare:Nat→Bool} {held:Bool} {t e ti ts ty:TypeId} {fs:Array Field} {fuel:Nat} {cs:List Value} {x:DataW H×List MemPlace}
  (ht:P.underlying t=some (.slice e)) (he:P.underlying e=some (.struct fs)) (hC:P.cellsOf e=4) (hfs:fs.toList.map (fun f=>(f.type,f.offset))=[(ti,0),(ti,1),(ts,2),(ts,3)])
  (hi:P.underlying ti=some (.int .i64)) (hs:P.underlying ts=some (.slice ty)) (hy:P.underlying ty=some (.int .u8))
  (ci:P.cellsOf ti=1) (cs':P.cellsOf ts=1) (cy:P.cellsOf ty=1)
  (h:DataW.trod enc P w base spare held fuel t cs=some x) :
  ∃ (ao:Option Addr) (cap:Nat) (xs:List zdy),cs=[.slice ao xs.length cap]∧xs.length≤cap∧cap≤maxLen∧zlo w ao xs:=by
 obtain ⟨ao,len,cap,vs,rfl,hl,hlc,hcm,hrows,hv⟩:=zrt ht he hC (by omega) h
 have each:∀ v∈vs,∃ x:zdy,v=x.vals∧x.In w:=by
  intro v hvm
  have hlen:=hrows.each v hvm
  obtain ⟨n,hf⟩:=hv v hvm
  obtain ⟨l⟩:=fs
  simp only at hfs
  have hln:l.length=4:=by have:=congrArg fq hfs;simpa using this
  match l,hln,hfs with
  | [f0,f1,f2,f3],_,hfs =>
   simp only [dI,mh,dZ,Prod.mk.injEq,and_true] at hfs
   obtain ⟨⟨t0,o0⟩,⟨t1,o1⟩,⟨t2,o2⟩,⟨t3,o3⟩⟩:=hfs
   match v,hlen with
   | [v0,v1,v2,v3],_ =>
    obtain ⟨y0,g0⟩:=hf 0 f0 rfl
    obtain ⟨y1,g1⟩:=hf 1 f1 rfl
    obtain ⟨y2,g2⟩:=hf 2 f2 rfl
    obtain ⟨y3,g3⟩:=hf 3 f3 rfl
    simp only [t0,t1,t2,t3,o0,o1,o2,o3,ci,cs',fC,bL,fD,cO] at g0 g1 g2 g3
    obtain ⟨n0,e0,_,w0⟩:=DataW.trod_int hi g0
    obtain ⟨n1,e1,_,w1⟩:=DataW.trod_int hi g1
    obtain ⟨po,pc,p,e2,l2,m2,q2⟩:=open_bytes hs hy cy g2
    obtain ⟨so,sc,s,e3,l3,m3,q3⟩:=open_bytes hs hy cy g3
    simp only [dZ,and_true] at e0 e1 e2 e3
    refine ⟨⟨n0,n1,po,pc,p,so,sc,s⟩,?_,⟨zq6 w0,zq6 w1,q2,q3,⟨l2,m2⟩,⟨l3,m3⟩⟩⟩
    simp only [zdy.vals,e0,e1,e2,e3]
 have:∃ xs:List zdy,vs=xs.map zdy.vals∧∀ x∈xs,x.In w:=by
  clear hrows hv hl h
  induction vs with
  | nil=>exact ⟨[],rfl,by simp⟩
  | cons v vs ih =>
   obtain ⟨x,rfl,hx⟩:=each v (by simp)
   obtain ⟨xs,rfl,hxs⟩:=ih (fun u hu=>each u (ui _ hu))
   refine ⟨x::xs,rfl,fun y hy=>?_⟩
   rcases uB.1 hy with rfl | hy
   ·exact hx
   ·exact hxs y hy
 obtain ⟨xs,rfl,hxs⟩:=this
 rw [yf] at hl
 subst hl
 exact ⟨ao,cap,xs,rfl,hlc,hcm,hrows,hxs⟩
end Go.Open
namespace Go.Joins
open ChangeShapes WideShapes RowKit Deep WideElems Maps
variable {H:Type} {enc:TypeId×Value→H} {P:Program} {w:World} {base:Nat} {spare:Nat→Bool} {held:Bool}
theorem zhM {α:Type} {cs:Array α} (h:cs.size=5):∃ c0 c1 c2 c3 c4,cs=#[c0,c1,c2,c3,c4]:=by
 obtain ⟨l⟩:=cs
 match l,h with
 | [c0,c1,c2,c3,c4],_=>exact ⟨c0,c1,c2,c3,c4,rfl⟩
end Go.Joins
namespace Go.Joins
open ChangeShapes WideShapes RowKit Deep WideElems Maps
variable {H:Type} {enc:TypeId×Value→H} {P:Program} {w:World} {base:Nat} {spare:Nat→Bool} {held:Bool}
end Go.Joins
namespace Go.Open
open RowKit Mem Ops Cells Oct ChangeShapes WideShapes
theorem byte_wf {n:Int} (h:(Lit.int .u8 n).wf=true):∃ x:UInt8,n=(x.toNat:Int):=by
 have hb:0≤n∧n≤255:=by simpa [Lit.wf,IntKind.min,IntKind.max,IntKind.signed,IntKind.bits] using h
 refine ⟨UInt8.ofNat n.toNat,?_⟩
 rw [UInt8.toNat_ofNat_of_lt' (by show _ < 256;omega)]
 omega
end Go.Open
namespace Go.Joins
open ChangeShapes WideShapes RowKit Deep WideElems Maps
variable {H:Type} {enc:TypeId×Value→H} {P:Program} {w:World} {base:Nat} {spare:Nat→Bool} {held:Bool}
theorem open_life {r:Reach} {b0:Nat} {t:TypeId} {f0 f1 f2:Field} {v:Value} {d:DataW H} {p:List MemPlace} (hs:P.underlying t=some (.struct #[f0,f1,f2])) (hC:P.cellsOf t=5)
  (h0:f0.offset=0∧P.cellsOf f0.type=3) (h1:f1.offset=3∧P.cellsOf f1.type=1) (h2:f2.offset=4∧P.cellsOf f2.type=1)
  (hv:Value.okWide P w r b0 t v) (h:DataW.Trod enc P w base spare held t v d p) :
  ∃ (v0 v1 v2 v3 v4:Value) (y0 y1 y2:DataW H×List MemPlace) (n:Nat),v=.agg #[v0,v1,v2,v3,v4]∧d=.agg [y0.1,y1.1,y2.1]∧p=y0.2++(y1.2++y2.2) ∧
   DataW.trod enc P w base spare held n f0.type [v0,v1,v2]=some y0∧DataW.trod enc P w base spare held n f1.type [v3]=some y1∧DataW.trod enc P w base spare held n f2.type [v4]=some y2:=by
 obtain ⟨cs,rfl,hsz⟩:=okWide_struct hs hv
 obtain ⟨c0,c1,c2,c3,c4,rfl⟩:=zhM (hsz.trans hC)
 obtain ⟨fuel,hf⟩:=h
 obtain ⟨xs,n,_,hx,hl,hlen,hfs⟩:=DataW.trod_struct hs hf
 match xs,hlen,hx,hfs with
 | [y0,y1,y2],_,hx,hfs =>
  simp only [Prod.mk.injEq] at hx
  have g0:=hfs 0 f0 rfl
  have g1:=hfs 1 f1 rfl
  have g2:=hfs 2 f2 rfl
  exact ⟨c0,c1,c2,c3,c4,y0,y1,y2,n,rfl,by simpa using hx.1,by simpa using hx.2,by simpa [Value.cells,h0.1,h0.2] using g0,by simpa [Value.cells,h1.1,h1.2] using g1,by simpa [Value.cells,h2.1,h2.2] using g2⟩
theorem open_three {t ti:TypeId} {f0 f1 f2:Field} {fuel:Nat} {v0 v1 v2:Value} {x:DataW H×List MemPlace} (hs:P.underlying t=some (.struct #[f0,f1,f2])) (hi:P.underlying ti=some (.int .i64)) (hc:P.cellsOf ti=1)
  (h0:f0.offset=0∧f0.type=ti) (h1:f1.offset=1∧f1.type=ti) (h2:f2.offset=2∧f2.type=ti) (h:DataW.trod enc P w base spare held fuel t [v0,v1,v2]=some x) :
  ∃ a b c:Int,v0=.int .i64 a∧v1=.int .i64 b∧v2=.int .i64 c∧(Lit.int .i64 a).wf=true∧(Lit.int .i64 b).wf=true∧(Lit.int .i64 c).wf=true:=by
 obtain ⟨xs,n,_,rfl,hl,hlen,hfs⟩:=DataW.trod_struct hs h
 have g0:=hfs 0 f0 rfl
 have g1:=hfs 1 f1 rfl
 have g2:=hfs 2 f2 rfl
 match xs,hlen,g0,g1,g2 with
 | [y0,y1,y2],_,g0,g1,g2 =>
  simp only [h0.1,h0.2,h1.1,h1.2,h2.1,h2.2,hc,bL,fC,fD,cO] at g0 g1 g2
  obtain ⟨a,e0,_,w0⟩:=DataW.trod_int hi g0
  obtain ⟨b,e1,_,w1⟩:=DataW.trod_int hi g1
  obtain ⟨c,e2,_,w2⟩:=DataW.trod_int hi g2
  exact ⟨a,b,c,by simpa using e0,by simpa using e1,by simpa using e2,w0,w1,w2⟩
end Go.Joins
namespace Go.zhN
open Ops Oct
structure Cmd where
 kind:Int
 a:Int
 n:Int
 m:Int
 key:List UInt8
 b:List UInt8
 name:List UInt8
end Go.zhN
namespace Go.zhN
open RowKit Mem Ops Cells Oct ChangeShapes WideShapes
structure zln (n:Nat) (w:World) (ao:Option Addr) (vs:List (List Value)):Prop where
 each:∀ v∈vs,v.length=n
 lies:zr w ao vs.flatten
theorem zdx (n:Nat):∀ (vs:List (List Value)) (i j:Nat) (v:List Value),(∀ v∈vs,v.length=n)→vs[i]? = some v→j < n→vs.flatten[n*i+j]? = v[j]?
 | [],i,j,v,_,hi,_=>by cases hi
 | x::vs,0,j,v,hv,hi,hj=>by
  simp at hi;subst hi
  have:=hv x (by simp)
  rw [uF,mE,bH,bO (by omega)]
 | x::vs,i+1,j,v,hv,hi,hj=>by
  have:=hv x (by simp)
  rw [dC] at hi
  rw [uF,bM (by rw [fJ];omega),this,show n*(i+1)+j - n=n*i+j by rw [fJ];omega]
  exact zdx n vs i j v (fun u hu=>hv u (ui _ hu)) hi hj
theorem zmk (n:Nat):∀ vs:List (List Value),(∀ v∈vs,v.length=n)→vs.flatten.length=vs.length*n
 | [],_=>by simp
 | x::vs,hv=>by
  rw [uF,q8,hv x (by simp),zmk n vs (fun u hu=>hv u (ui _ hu)),uh,uZ]
  omega
theorem zln.below {n:Nat} {w w':World} {ao:Option Addr} {vs:List (List Value)} (h:zln n w ao vs) (hb:Below w.heap.size w w'):zln n w' ao vs:=⟨h.each,h.lies.below hb⟩
theorem zln.nil (n:Nat) (w:World) (ao:Option Addr):zln n w ao []:=⟨by simp,zr.nil _ _⟩
theorem zln.range {n:Nat} {w:World} {ao:Option Addr} {vs:List (List Value)} (h:zln n w ao vs) (hn:0 < n) {i:Nat} {v:List Value} (hi:vs[i]? = some v) :
  ∃ b off,ao=some ⟨b,off,none⟩∧b < w.heap.size∧w.rangeAt b (off+i*n) v:=by
 have hk:=h.each v (xU hi)
 have hat:∀ j u,v[j]? = some u→vs.flatten[n*i+j]? = some u:=fun j u hu=>by
  have hj:j < n:=by
   rcases bg j n with h | h
   ·exact h
   ·rw [qc (by omega)] at hu;cases hu
  rw [zdx n vs i j v h.each hi hj]
  exact hu
 obtain ⟨b,off,rfl,hc⟩:=h.lies _ _ (hat 0 (v[0]'(by omega)) (by simp))
 refine ⟨b,off,rfl,block_lt_of_cell hc,fun j u hu=>?_⟩
 obtain ⟨b',off',e,hc'⟩:=h.lies _ _ (hat j u hu)
 cases e
 rw [show off+i*n+j=off+(n*i+j) by rw [dG i n];omega]
 exact hc'
theorem zrt {H:Type} {enc:TypeId×Value→H} {P:Program} {w:World} {base:Nat} {spare:Nat→Bool} {held:Bool} {t e:TypeId} {fs:Array Field} {fuel C:Nat} {cs:List Value} {x:DataW H×List MemPlace}
  (ht:P.underlying t=some (.slice e)) (he:P.underlying e=some (.struct fs)) (hC:P.cellsOf e=C) (hC0:0 < C) (h:DataW.trod enc P w base spare held fuel t cs=some x) :
  ∃ (ao:Option Addr) (len cap:Nat) (vs:List (List Value)),cs=[.slice ao len cap]∧vs.length=len∧len≤cap∧cap≤maxLen∧zln C w ao vs ∧
   ∀ v∈vs,∃ n,∀ (i:Nat) (f:Field),fs[i]? = some f→∃ y,DataW.trod enc P w base spare held n f.type ((v.drop f.offset).take (P.cellsOf f.type))=some y:=by
 rcases Go.Deep.open_slice ht h with ⟨rfl,_⟩ | ⟨a,len,cap,m,n,D,Pl,rfl,hb,hl,hm,hmm,rfl,hx⟩
 ·exact ⟨none,0,0,[],rfl,rfl,xc _,by simp [maxLen],zln.nil _ _ _,by simp⟩
 have hlm:len≤m:=by rw [hmm];split <;> omega
 have each:∀ i,i < len→∃ v:List Value,v.length=C∧(∀ j u,v[j]? = some u→w.cell? (a.add (i*C+j))=some u) ∧
   ∃ n,∀ (i:Nat) (f:Field),fs[i]? = some f→∃ y,DataW.trod enc P w base spare held n f.type ((v.drop f.offset).take (P.cellsOf f.type))=some y:=by
  intro i hi
  obtain ⟨cs',h1,h2⟩:=hx i (by omega)
  rw [hC] at h1
  obtain ⟨_,hlen,hcell⟩:=World.cells?_some h1
  obtain ⟨xs,k,hk,hxy,_,hxl,hf⟩:=DataW.trod_struct he h2
  refine ⟨cs',hlen,fun j u hu=>?_,k,fun i f hfi=>?_⟩
  ·have hj:j < C:=by
    rcases bg j C with h | h
    ·exact h
    ·rw [qc (by omega)] at hu;cases hu
   have:=hcell j hj
   rw [Go.Deep.add_add] at this
   rw [this,hu]
  ·have hi':i < xs.length:=by
    rw [hxl]
    exact (uJ.1 hfi).1
   refine ⟨xs[i],?_⟩
   rw [hf i f hfi]
   simp [hi']
 obtain ⟨V,hV⟩:=Go.Deep.choose_lt each
 refine ⟨some a,len,cap,(uf len).map V,rfl,by simp,hl,hm,⟨?_,?_⟩,?_⟩
 ·intro v hv
  obtain ⟨i,hi,rfl⟩:=ug.1 hv
  exact (hV i (bW.1 hi)).1
 ·intro j u hu
  have hev:∀ v∈(uf len).map V,v.length=C:=by
   intro v hv
   obtain ⟨i,hi,rfl⟩:=ug.1 hv
   exact (hV i (bW.1 hi)).1
  have hfl:((uf len).map V).flatten.length=len*C:=by
   rw [zmk C _ hev]
   simp
  have hj:j < len*C:=by
   rcases bg j (len*C) with h | h
   ·exact h
   ·rw [qc (by omega)] at hu;cases hu
  have hi:j / C < len:=lv (by rw [dG];exact hj)
  have hm':j % C < C:=ma _ hC0
  have hat:=zdx C _ (j / C) (j % C) (V (j / C)) hev (by simp [hi]) hm'
  rw [fu] at hat
  rw [hat] at hu
  have h2:=(hV _ hi).2.1 _ _ hu
  rw [show j / C*C+j % C=j by rw [dG];exact fu j C] at h2
  have zcG:0 < len:=cK (gX _) hi
  have hl0:=(hV 0 zcG).1
  have h0:=(hV 0 zcG).2.1 0 ((V 0)[0]'(by rw [hl0];exact hC0)) (by simp)
  rw [dQ] at h0
  have hs:=World.cell?_spot h0
  obtain ⟨b,off,sp⟩:=a
  have hs':sp=none:=by simpa [Addr.add] using hs
  subst hs'
  exact ⟨b,off,rfl,by rw [add_eq] at h2;exact h2⟩
 ·intro v hv
  obtain ⟨i,hi,rfl⟩:=ug.1 hv
  exact (hV i (bW.1 hi)).2.2
structure Opr where
 c:Cmd
 ko:Option Addr
 kc:Nat
 bo:Option Addr
 bc:Nat
def Opr.vals (x:Opr):List Value :=
 [.int .i64 x.c.kind,.int .i64 x.c.a,.int .i64 x.c.n,.int .i64 x.c.m,.slice x.ko x.c.key.length x.kc,.slice x.bo x.c.b.length x.bc,.string (str x.c.name)]
def Fit (n:Int):Prop:=-9223372036854775808≤n∧n≤9223372036854775807
structure Opr.In (w:World) (x:Opr):Prop where
 kind:Fit x.c.kind
 a:Fit x.c.a
 n:Fit x.c.n
 m:Fit x.c.m
 key:zr w x.ko (x.c.key.map B)
 b:zr w x.bo (x.c.b.map B)
 kc:x.c.key.length≤x.kc∧x.kc≤maxLen
 bc:x.c.b.length≤x.bc∧x.bc≤maxLen
 name:x.c.name.length≤maxLen
structure zhO (w:World) (ao:Option Addr) (xs:List Opr):Prop where
 rows:zln 7 w ao (xs.map Opr.vals)
 each:∀ x∈xs,x.In w
theorem zhO.at {w:World} {ao:Option Addr} {xs:List Opr} (h:zhO w ao xs) {i:Nat} {x:Opr} (hi:xs[i]? = some x) :
  x.In w∧∃ b off,ao=some ⟨b,off,none⟩∧b < w.heap.size∧w.rangeAt b (off+i*7) x.vals :=
 ⟨h.each x (xU hi),h.rows.range (by omega) (by simp [hi])⟩
theorem zq6 {n:Int} (h:(Lit.int .i64 n).wf=true):Fit n:=by
 have:-9223372036854775808≤n∧n≤9223372036854775807:=by simpa [Lit.wf,IntKind.min,IntKind.max,IntKind.signed,IntKind.bits] using h
 exact this
theorem open_bytes {H:Type} {enc:TypeId×Value→H} {P:Program} {w:World} {base:Nat} {spare:Nat→Bool} {held:Bool} {t e:TypeId} {fuel:Nat} {cs:List Value} {x:DataW H×List MemPlace}
  (ht:P.underlying t=some (.slice e)) (he:P.underlying e=some (.int .u8)) (hc:P.cellsOf e=1) (h:DataW.trod enc P w base spare held fuel t cs=some x) :
  ∃ (ao:Option Addr) (cap:Nat) (bs:List UInt8),cs=[.slice ao bs.length cap]∧bs.length≤cap∧cap≤maxLen∧zr w ao (bs.map B):=by
 rcases open_ints ht he hc h with ⟨rfl,_⟩ | ⟨x,l,c,zs,rfl,_,hl,hm,hz,_,hcell,hwz⟩
 ·exact ⟨none,0,[],rfl,xc _,by simp [maxLen],zr.nil _ _⟩
 ·have hz':l≤zs.length:=by rw [hz];split <;> omega
  obtain ⟨bs,h1,h2,h3,h4⟩:=Go.Mem.bytes_of_row (w:=w) (a:=some x) (len:=l) (cap:=zs.length) (zs:=zs)
   (.inr ⟨x,rfl,hz',by rw [hz];split <;> omega,rfl,hcell,hwz⟩)
  exact ⟨some x,c,bs,by rw [h1],by omega,hm,h4⟩
structure zs2 where
 e:Int
 n:Int
 bo:Option Addr
 bc:Nat
 b:List UInt8
def zs2.vals (x:zs2):List Value:=[.int .i64 x.e,.int .i64 x.n,.slice x.bo x.b.length x.bc]
structure zs2.In (w:World) (x:zs2):Prop where
 e:Fit x.e
 n:Fit x.n
 b:zr w x.bo (x.b.map B)
 bc:x.b.length≤x.bc∧x.bc≤maxLen
structure zt0 (w:World) (ao:Option Addr) (xs:List zs2):Prop where
 rows:zln 3 w ao (xs.map zs2.vals)
 each:∀ x∈xs,x.In w
theorem zt0.at {w:World} {ao:Option Addr} {xs:List zs2} (h:zt0 w ao xs) {i:Nat} {x:zs2} (hi:xs[i]? = some x) :
  x.In w∧∃ b off,ao=some ⟨b,off,none⟩∧b < w.heap.size∧w.rangeAt b (off+i*3) x.vals :=
 ⟨h.each x (xU hi),h.rows.range (by omega) (by simp [hi])⟩
end Go.zhN
namespace Go.Vol
open RowKit Mem Ops Cells Oct zhN ChangeShapes WideShapes
structure zmm where
 kind:Int
 n:Int
 ao:Option Addr
 cap:Nat
 bs:List UInt8
 by':UInt8
def zmm.vals (x:zmm):List Value:=[.int .i64 x.kind,.int .i64 x.n,.slice x.ao x.bs.length x.cap,B x.by']
structure zmm.In (w:World) (x:zmm):Prop where
 kind:Fit x.kind
 n:Fit x.n
 lies:zr w x.ao (x.bs.map B)
 cap:x.bs.length≤x.cap∧x.cap≤maxLen
theorem zmm.In.below {w w':World} {x:zmm} (h:x.In w) (hb:Below w.heap.size w w'):x.In w':=⟨h.kind,h.n,h.lies.below hb,h.cap⟩
structure zlo (w:World) (ao:Option Addr) (xs:List zmm):Prop where
 rows:zln 4 w ao (xs.map zmm.vals)
 each:∀ x∈xs,x.In w
theorem zlo.below {w w':World} {ao:Option Addr} {xs:List zmm} (h:zlo w ao xs) (hb:Below w.heap.size w w'):zlo w' ao xs:=⟨h.rows.below hb,fun x hx=>(h.each x hx).below hb⟩
theorem zlo.at {w:World} {ao:Option Addr} {xs:List zmm} (h:zlo w ao xs) {i:Nat} {x:zmm} (hi:xs[i]? = some x) :
  x.In w∧∃ b off,ao=some ⟨b,off,none⟩∧b < w.heap.size∧w.rangeAt b (off+i*4) x.vals :=
 ⟨h.each x (xU hi),h.rows.range (by omega) (by simp [hi])⟩
theorem ztp {H:Type} {enc:TypeId×Value→H} {P:Program} {w:World} {base:Nat} {spare:Nat→Bool} {held:Bool} {t e ti ts tu:TypeId} {fs:Array Field} {fuel:Nat} {cs:List Value} {x:DataW H×List MemPlace}
  (ht:P.underlying t=some (.slice e)) (he:P.underlying e=some (.struct fs)) (hC:P.cellsOf e=4) (hfs:fs.toList.map (fun f=>(f.type,f.offset))=[(ti,0),(ti,1),(ts,2),(tu,3)])
  (hi:P.underlying ti=some (.int .i64)) (hs:P.underlying ts=some (.slice tu)) (hu:P.underlying tu=some (.int .u8))
  (ci:P.cellsOf ti=1) (cs':P.cellsOf ts=1) (cu:P.cellsOf tu=1)
  (h:DataW.trod enc P w base spare held fuel t cs=some x) :
  ∃ (ao:Option Addr) (cap:Nat) (xs:List zmm),cs=[.slice ao xs.length cap]∧xs.length≤cap∧cap≤maxLen∧zlo w ao xs:=by
 obtain ⟨ao,len,cap,vs,rfl,hl,hlc,hcm,hrows,hv⟩:=zrt ht he hC (by omega) h
 have each:∀ v∈vs,∃ x:zmm,v=x.vals∧x.In w:=by
  intro v hvm
  have hlen:=hrows.each v hvm
  obtain ⟨n,hf⟩:=hv v hvm
  obtain ⟨l⟩:=fs
  simp only at hfs
  have hln:l.length=4:=by have:=congrArg fq hfs;simpa using this
  match l,hln,hfs with
  | [f0,f1,f2,f3],_,hfs =>
   simp only [dI,mh,dZ,Prod.mk.injEq,and_true] at hfs
   obtain ⟨⟨t0,o0⟩,⟨t1,o1⟩,⟨t2,o2⟩,⟨t3,o3⟩⟩:=hfs
   match v,hlen with
   | [v0,v1,v2,v3],_ =>
    obtain ⟨y0,g0⟩:=hf 0 f0 rfl
    obtain ⟨y1,g1⟩:=hf 1 f1 rfl
    obtain ⟨y2,g2⟩:=hf 2 f2 rfl
    obtain ⟨y3,g3⟩:=hf 3 f3 rfl
    simp only [t0,t1,t2,t3,o0,o1,o2,o3,ci,cs',cu,fC,bL,fD,cO] at g0 g1 g2 g3
    obtain ⟨n0,e0,_,w0⟩:=DataW.trod_int hi g0
    obtain ⟨n1,e1,_,w1⟩:=DataW.trod_int hi g1
    obtain ⟨bo,bc,b,e2,l2,m2,q2⟩:=Go.zhN.open_bytes hs hu cu g2
    obtain ⟨n3,e3,_,w3⟩:=DataW.trod_int hu g3
    obtain ⟨z,rfl⟩:∃ z:UInt8,n3=(z.toNat:Int):=Go.Open.byte_wf w3
    simp only [dZ,and_true] at e0 e1 e2 e3
    refine ⟨⟨n0,n1,bo,bc,b,z⟩,?_,⟨zq6 w0,zq6 w1,q2,⟨l2,m2⟩⟩⟩
    simp only [zmm.vals,e0,e1,e2,e3,B]
 have:∃ xs:List zmm,vs=xs.map zmm.vals∧∀ x∈xs,x.In w:=by
  clear hrows hv hl h
  induction vs with
  | nil=>exact ⟨[],rfl,by simp⟩
  | cons v vs ih =>
   obtain ⟨x,rfl,hx⟩:=each v (by simp)
   obtain ⟨xs,rfl,hxs⟩:=ih (fun u hu=>each u (ui _ hu))
   refine ⟨x::xs,rfl,fun y hy=>?_⟩
   rcases uB.1 hy with rfl | hy
   ·exact hx
   ·exact hxs y hy
 obtain ⟨xs,rfl,hxs⟩:=this
 exact ⟨ao,cap,xs,by rw [← hl,yf],by rw [← yf (f:=zmm.vals),hl];exact hlc,hcm,hrows,hxs⟩
end Go.Vol
namespace Go.Cells
open RowKit Mem
theorem zs3 {P:Program} {ops:Array Oper} {k0:Act→World→Prop} {i:Nat} {r:List Nat} {o:Oper} {a:Act} {w:World} (ho:ops[i]? = some o)
  (t:TypeId) (parts:Array (Nat×Operand)) (vs:List (Nat×Value)) (cells:Array Value) (hop:o.op=.build t parts) (hp':(parts.toList.map fun p=>(p.1,a.eval p.2))=vs) (hb:P.built t vs=some cells)
  (h:∀ K:Act→Prop,(∀ a',zO P ops k0 r a' w→K a')→K (a.put o.dst (.agg cells))):zO P ops k0 (i::r) a w:=by
 have hp:(parts.map fun (i,x)=>(i,a.eval x))=vs.toArray:=by
  apply Array.toList_inj.1
  rw [Array.toList_map]
  exact hp'
 simp only [zO,ho]
 refine ⟨_,fun w' _=>?_,h _ fun _ h=>h⟩
 have hrun:=run_build (P:=P) w' t vs.toArray cells (by simpa using hb)
 unfold execOp
 simp only [hop,hp,Sem.run_bind,hrun,Result.andThen_ok,Sem.run_pure]
end Go.Cells
namespace Go.Proofs.YtjaioajjfiaheaaGreatDoor
open RowKit Mem Ops Cells Oct Trn Aes Ring Ezk Blake Adi Hct Wid Vol Fl ru
attribute [local irreducible] zE zN zO zM yu
theorem zq7 {F:List Nat} {w0 w:World} {ao:Option Addr} {xs:List Value} (h:zr w0 ao xs) (hb:Below w0.heap.size w0 w) (hF:∀ i∈F,w0.heap.size≤i):zij F w (fun w'=>zr w' ao xs):=by
 intro w' hu j u hj
 obtain ⟨b,off,e,hc⟩:=h j u hj
 have hl:=block_lt_of_cell hc
 refine ⟨b,off,e,?_⟩
 have e2:=(hu.block b (fun hi=>absurd (hF b hi) (Nat.not_le.2 hl)) (Nat.lt_of_lt_of_le hl hb.size)).trans (hb.block b hl)
 simp only [World.cell?] at hc ⊢
 rw [e2]
 exact hc
theorem zfn:Row Tryz.prog 54 4:=⟨by kernel_rfl,by kernel_rfl⟩
theorem zhr:Row Tryz.prog 47 5:=⟨by kernel_rfl,by kernel_rfl⟩
theorem ztb (a b c:Int):Tryz.prog.built 83 [(0,.int .i64 a),(1,.int .i64 b),(2,.int .i64 c)]=some #[.int .i64 a,.int .i64 b,.int .i64 c]:=by kernel_rfl
theorem zqw (x:zmm) (w:World):Calls Tryz.prog 30 #[.agg x.vals.toArray] w fun e w'=>e=.returned (.int .i64 (pW x.kind:Nat))∧Below w.heap.size w w':=by
 have HS:=znq (St.start w)
 obtain ⟨r,hr⟩:∃ r,r=pW x.kind:=⟨_,rfl⟩
 rw [← hr]
 unfold pW at hr
 by_cases h0:x.kind < 0
 ·have d0:decide (x.kind < 0)=true:=by simp;omega
  have HR:=znq (show r=1∧True from ⟨by rw [hr,if_pos (.inl h0)],trivial⟩)
  clear hr h0
  go_enter Tryz.func30,Tryz.ntmps30
  go_wp2_with (refine zh 54 _ x.vals _ rfl rfl rfl rfl ?_)
  intro w1 hb hbel;have HS:=znq (HS.znr.push hb hbel);have hc:=hb.cell 0 (.int .i64 x.kind) rfl;clear hb hbel
  go_wp2
  go_ret
  rw [HR.znr.1]
  exact ⟨rfl,HS.znr.bel⟩
 have d0:decide (x.kind < 0)=false:=by simp;omega
 by_cases h1:6 < x.kind
 ·have d1:decide (x.kind > 6)=true:=by simp;omega
  have d2:decide (6 < x.kind)=true:=by simp;omega
  have HR:=znq (show r=1∧True from ⟨by rw [hr,if_pos (.inr h1)],trivial⟩)
  clear hr h0 h1
  go_enter Tryz.func30,Tryz.ntmps30
  go_wp2_with (refine zh 54 _ x.vals _ rfl rfl rfl rfl ?_)
  intro w1 hb hbel;have HS:=znq (HS.znr.push hb hbel);have hc:=hb.cell 0 (.int .i64 x.kind) rfl;clear hb hbel
  go_wp2
  go_ret
  rw [HR.znr.1]
  exact ⟨rfl,HS.znr.bel⟩
 have d1:decide (x.kind > 6)=false:=by simp;omega
 have d2:decide (6 < x.kind)=false:=by simp;omega
 have HR:=znq (show x.kind=(r:Int)∧True from ⟨by rw [hr,if_neg (by omega)];omega,trivial⟩)
 clear hr h0 h1
 go_enter Tryz.func30,Tryz.ntmps30
 go_wp2_with (refine zh 54 _ x.vals _ rfl rfl rfl rfl ?_)
 intro w1 hb hbel;have HS:=znq (HS.znr.push hb hbel);have hc:=hb.cell 0 (.int .i64 x.kind) rfl;clear hb hbel
 go_wp2
 go_ret
 exact ⟨by rw [HR.znr.1];rfl,HS.znr.bel⟩
theorem ztq {w:World} {F:List Nat} {q vp sp:Nat} {v:Vol} {np:Nat} {xp:Value} (n:Int) (h:y4 104 F w q vp sp v (y5 v) np xp) (hr:v.reads≤1000000∧v.writes≤1000000) :
  Calls Tryz.prog 32 #[.pointer (some ⟨vp,0,none⟩),.int .i64 n] w fun e w'=>∃ val,e=.returned (.tuple #[val,.int .i64 (v.read n).2])∧y4 104 F w' q vp sp (v.read n).1 (y5 (v.read n).1) np xp∧Chg vp sp w w':=by
 by_cases hn:v.has n
 ·obtain ⟨m,rfl⟩:∃ m:Nat,n=(m:Int):=⟨n.toNat,by unfold Vol.has at hn;omega⟩
  refine (zr4 m h (by unfold Vol.has at hn;omega) hr).mono ?_
  rintro e w' ⟨val,he,_,h1,h2⟩
  exact ⟨val,by rw [he];unfold Vol.read;rw [if_pos hn],h1,h2⟩
 ·refine (ztx n h hn).mono ?_
  rintro e w' ⟨he,hb⟩
  have e2:v.read n=(v,11):=by unfold Vol.read;rw [if_neg hn]
  rw [e2]
  exact ⟨_,he,h.below hb,Chg.of_below hb⟩
theorem ztr {w:World} {F:List Nat} {q vp sp:Nat} {v:Vol} {np:Nat} {xp:Value} (h:y4 104 F w q vp sp v (y5 v) np xp) :
  Calls Tryz.prog 36 #[.pointer (some ⟨vp,0,none⟩)] w fun e w'=>(∃ left,e=.returned (.tuple #[.int .i64 left,.int .i64 v.move.2]))∧(∃ np' xp',y4 104 F w' q vp sp v.move.1 (y5 v.move.1) np' xp')∧Chg vp sp w w':=by
 cases hx:v.next with
 | none =>
  have e2:v.move=(v,12):=by unfold Vol.move;rw [hx]
  rw [e2]
  refine (zs0 h hx).mono ?_
  rintro e w' ⟨he,rfl⟩
  exact ⟨⟨_,he⟩,⟨_,_,h⟩,Chg.refl _ _ _⟩
 | some k =>
  have e2:v.move=(v.step k,0):=by unfold Vol.move;rw [hx]
  rw [e2]
  refine (zrm k h hx).mono ?_
  rintro e w' ⟨he,hv,hc⟩
  exact ⟨⟨_,he⟩,hv,hc⟩
theorem zts {w:World} {F:List Nat} {q p vp sp:Nat} {v:Vol} {np:Nat} {xp:Value} (x:zmm) (h:y4 104 F w q vp sp v (y5 v) np xp) (ht:zrr F w q p) (hr:v.reads≤1000000∧v.writes≤1000000) (hg:qD w) (hcap:x.bs.length≤x.cap) (hl:zij F w (fun w'=>zr w' x.ao (x.bs.map B))) :
  Calls Tryz.prog 31 #[.pointer (some ⟨vp,0,none⟩),.agg x.vals.toArray] w fun e w'=>e=.returned (.int .i64 (v.act (pW x.kind) x.n x.bs x.by').2)∧(∃ np' xp',y4 104 F w' q vp sp (v.act (pW x.kind) x.n x.bs x.by').1 (y5 (v.act (pW x.kind) x.n x.bs x.by').1) np' xp')∧Chg vp sp w w':=by
 have HS:=znq (St.start w)
 have HV:=znq h
 have HT:=znq ht
 have HG:=znq hg
 have HL:=znq hl
 obtain ⟨r,hrr⟩:∃ r,r=v.act (pW x.kind) x.n x.bs x.by':=⟨_,rfl⟩
 rw [← hrr]
 have HK:=znq (zqw x)
 have hle:=zsx x.kind
 generalize pW x.kind=kd at *
 obtain ⟨bn,hbn⟩:∃ bn,bn=x.bs.length:=⟨_,rfl⟩
 have HBN:=znq (show x.bs.length=bn from hbn.symm)
 have HVL:=znq (show x.vals=[.int .i64 x.kind,.int .i64 x.n,.slice x.ao bn x.cap,B x.by'] from by rw [hbn];rfl)
 rw [← hbn] at hcap
 clear h ht hg hl hbn
 rcases (show kd=0∨kd=3∨kd=4∨kd=5∨kd=6∨kd=1∨kd=2 by omega) with rfl | rfl | rfl | rfl | rfl | rfl | rfl
 ·have HR:=znq (show r=v.write x.n x.bs from hrr)
  clear hrr hle
  go_enter Tryz.func31,Tryz.ntmps31
  go_wp2_with (refine zh 54 _ x.vals _ rfl rfl rfl rfl ?_)
  intro w1 hb hbel;have HS:=znq (HS.znr.push hb hbel);clear hb hbel
  go_wp2_with (refine (HS.znr.get 0 rfl).mP rfl rfl rfl zfn rfl ?_)
  refine (HK.znr _).mono ?_
  rintro e w2 ⟨rfl,hbel⟩
  have HS:=znq (HS.znr.later hbel)
  clear hbel
  have hx1:=(HS.znr.get 0 rfl).cell 1 (.int .i64 x.n) (by rw [HVL.znr];rfl)
  have hx2:=(HS.znr.get 0 rfl).cell 2 (.slice x.ao bn x.cap) (by rw [HVL.znr];rfl)
  go_wp2_with fail
  refine (zre x.n x.ao bn x.cap x.bs (HV.znr.below HS.znr.bel) hr HBN.znr (HL.znr.below HS.znr.bel)).mono ?_
  rintro e w3 ⟨rfl,hv,hc⟩
  rw [← HR.znr] at hv ⊢
  have HZ:=znq (And.intro hv (Chg.trans (Chg.of_below HS.znr.bel) hc))
  clear hv hc hx1 hx2
  go_wp2
  go_ret
  exact ⟨rfl,⟨_,_,HZ.znr.1⟩,HZ.znr.2⟩
 ·have HR:=znq (show r=v.harm x.n x.by' from hrr)
  clear hrr hle
  go_enter Tryz.func31,Tryz.ntmps31
  go_wp2_with (refine zh 54 _ x.vals _ rfl rfl rfl rfl ?_)
  intro w1 hb hbel;have HS:=znq (HS.znr.push hb hbel);clear hb hbel
  go_wp2_with (refine (HS.znr.get 0 rfl).mP rfl rfl rfl zfn rfl ?_)
  refine (HK.znr _).mono ?_
  rintro e w2 ⟨rfl,hbel⟩
  have HS:=znq (HS.znr.later hbel)
  clear hbel
  have hx1:=(HS.znr.get 0 rfl).cell 1 (.int .i64 x.n) (by rw [HVL.znr];rfl)
  have hx3:=(HS.znr.get 0 rfl).cell 3 (B x.by') (by rw [HVL.znr];rfl)
  go_wp2_with fail
  refine (ztz x.n x.by' (HV.znr.below HS.znr.bel)).mono ?_
  rintro e w3 ⟨rfl,hv,hc⟩
  rw [← HR.znr] at hv ⊢
  have HZ:=znq (And.intro hv (Chg.trans (Chg.of_below HS.znr.bel) hc))
  clear hv hc hx1 hx3
  go_wp2
  go_ret
  exact ⟨rfl,⟨_,_,HZ.znr.1⟩,HZ.znr.2⟩
 ·have HR:=znq (show r=v.start x.bs from hrr)
  clear hrr hle
  go_enter Tryz.func31,Tryz.ntmps31
  go_wp2_with (refine zh 54 _ x.vals _ rfl rfl rfl rfl ?_)
  intro w1 hb hbel;have HS:=znq (HS.znr.push hb hbel);clear hb hbel
  go_wp2_with (refine (HS.znr.get 0 rfl).mP rfl rfl rfl zfn rfl ?_)
  refine (HK.znr _).mono ?_
  rintro e w2 ⟨rfl,hbel⟩
  have HS:=znq (HS.znr.later hbel)
  clear hbel
  have hx2:=(HS.znr.get 0 rfl).cell 2 (.slice x.ao bn x.cap) (by rw [HVL.znr];rfl)
  go_wp2_with fail
  refine (zrs x.ao bn x.cap x.bs (HV.znr.below HS.znr.bel) (HT.znr.below HS.znr.bel) HBN.znr hcap (HL.znr.below HS.znr.bel).self (HG.znr.below HS.znr.bel)).mono ?_
  rintro e w3 ⟨rfl,⟨xp',hv⟩,hc⟩
  rw [← HR.znr] at hv ⊢
  have HZ:=znq (And.intro hv (Chg.trans (Chg.of_below HS.znr.bel) hc))
  clear hv hc hx2
  go_wp2
  go_ret
  exact ⟨rfl,⟨_,_,HZ.znr.1⟩,HZ.znr.2⟩
 ·have HR:=znq (show r=v.move from hrr)
  clear hrr hle
  go_enter Tryz.func31,Tryz.ntmps31
  go_wp2_with (refine zh 54 _ x.vals _ rfl rfl rfl rfl ?_)
  intro w1 hb hbel;have HS:=znq (HS.znr.push hb hbel);clear hb hbel
  go_wp2_with (refine (HS.znr.get 0 rfl).mP rfl rfl rfl zfn rfl ?_)
  refine (HK.znr _).mono ?_
  rintro e w2 ⟨rfl,hbel⟩
  have HS:=znq (HS.znr.later hbel)
  clear hbel
  go_wp2_with fail
  refine (ztr (HV.znr.below HS.znr.bel)).mono ?_
  rintro e w3 ⟨⟨left,rfl⟩,⟨np',xp',hv⟩,hc⟩
  rw [← HR.znr] at hv ⊢
  have HZ:=znq (And.intro hv (Chg.trans (Chg.of_below HS.znr.bel) hc))
  clear hv hc
  go_wp2
  go_ret
  exact ⟨rfl,⟨_,_,HZ.znr.1⟩,HZ.znr.2⟩
 ·have HR:=znq (show r=v.all x.bs from hrr)
  clear hrr hle
  go_enter Tryz.func31,Tryz.ntmps31
  go_wp2_with (refine zh 54 _ x.vals _ rfl rfl rfl rfl ?_)
  intro w1 hb hbel;have HS:=znq (HS.znr.push hb hbel);clear hb hbel
  go_wp2_with (refine (HS.znr.get 0 rfl).mP rfl rfl rfl zfn rfl ?_)
  refine (HK.znr _).mono ?_
  rintro e w2 ⟨rfl,hbel⟩
  have HS:=znq (HS.znr.later hbel)
  clear hbel
  have hx2:=(HS.znr.get 0 rfl).cell 2 (.slice x.ao bn x.cap) (by rw [HVL.znr];rfl)
  go_wp2_with fail
  refine (ztf x.ao bn x.cap x.bs (HV.znr.below HS.znr.bel) (HT.znr.below HS.znr.bel) HBN.znr hcap (HL.znr.below HS.znr.bel).self (HG.znr.below HS.znr.bel)).mono ?_
  rintro e w3 ⟨rfl,⟨np',xp',hv⟩,hc⟩
  rw [← HR.znr] at hv ⊢
  have HZ:=znq (And.intro hv (Chg.trans (Chg.of_below HS.znr.bel) hc))
  clear hv hc hx2
  go_wp2
  go_ret
  exact ⟨rfl,⟨_,_,HZ.znr.1⟩,HZ.znr.2⟩
 all_goals (
  have HR:=znq (show r=v.read x.n from hrr)
  clear hrr hle
  go_enter Tryz.func31,Tryz.ntmps31
  go_wp2_with (refine zh 54 _ x.vals _ rfl rfl rfl rfl ?_)
  intro w1 hb hbel;have HS:=znq (HS.znr.push hb hbel);clear hb hbel
  go_wp2_with (refine (HS.znr.get 0 rfl).mP rfl rfl rfl zfn rfl ?_)
  refine (HK.znr _).mono ?_
  rintro e w2 ⟨rfl,hbel⟩
  have HS:=znq (HS.znr.later hbel)
  clear hbel
  have hx1:=(HS.znr.get 0 rfl).cell 1 (.int .i64 x.n) (by rw [HVL.znr];rfl)
  go_wp2_with fail
  refine (ztq x.n (HV.znr.below HS.znr.bel) hr).mono ?_
  rintro e w3 ⟨val,rfl,hv,hc⟩
  rw [← HR.znr] at hv ⊢
  have HZ:=znq (And.intro hv (Chg.trans (Chg.of_below HS.znr.bel) hc))
  clear hv hc hx1
  go_wp2
  go_ret
  exact ⟨rfl,⟨_,_,HZ.znr.1⟩,HZ.znr.2⟩)
end Go.Proofs.YtjaioajjfiaheaaGreatDoor
namespace Go.Proofs.YtjaioajjfiaheaaGreatDoor
open RowKit Mem Ops Cells Oct Gf Trn Aes Ring Ezk Blake Adi Hct Wid Vol Fl ru
attribute [local irreducible] zE zN zO zM yu
def nU (alg size secs : Int) (kn : Nat) : Int := if size < 16 ∨ 4096 < size then 4 else if secs < 1 ∨ 256 < secs then 11 else (ni alg kn : Nat)
theorem zmq {alg size secs : Int} {kn : Nat} (h : nU alg size secs kn = 0) : ∃ sz sc : Nat, size = (sz : Int) ∧ secs = (sc : Int) ∧ (16 ≤ sz ∧ sz ≤ 4096) ∧ (1 ≤ sc ∧ sc ≤ 256) ∧ ni alg kn = 0 := by
  unfold nU at h
  split at h
  · cases h
  · split at h
    · cases h
    · exact ⟨size.toNat, secs.toNat, by omega, by omega, by omega, by omega, by omega⟩
theorem zlk (alg size secs : Int) (ka : Option Addr) (kn kc : Nat) (w : World) : Calls Tryz.prog 28 #[.agg #[.int .i64 alg, .int .i64 size, .int .i64 secs], .slice ka kn kc] w fun e w' => e = .returned (.int .i64 (nU alg size secs kn)) ∧ Below w.heap.size w w' := by
  have HS := znq (St.start w)
  obtain ⟨r, hr⟩ : ∃ r, r = nU alg size secs kn := ⟨_, rfl⟩
  rw [← hr]
  unfold nU at hr
  by_cases h0 : size < 16 ∨ 4096 < size
  · have HR := znq (show r = 4 ∧ True from ⟨by rw [hr, if_pos h0], trivial⟩)
    have hd : decide (size < 16) = true ∨ (decide (size < 16) = false ∧ decide (size > 4096) = true ∧ decide (4096 < size) = true) := by
      by_cases h1 : size < 16
      · exact .inl (by simp; omega)
      · exact .inr ⟨by simp; omega, by simp; omega, by simp; omega⟩
    clear hr h0
    rcases hd with d1 | ⟨d1, d2, d3⟩
    all_goals (
      go_enter Tryz.func28, Tryz.ntmps28
      go_wp2_with (refine zh 44 _ [.int .i64 alg, .int .i64 size, .int .i64 secs] _ rfl rfl rfl rfl ?_)
      intro w1 hb hbel; have HS := znq (HS.znr.push hb hbel); have hc := hb.cell 1 _ rfl; clear hb hbel
      go_wp2
      go_ret
      rw [HR.znr.1]
      exact ⟨rfl, HS.znr.bel⟩)
  have d1 : decide (size < 16) = false := by simp; omega
  have d2 : decide (size > 4096) = false := by simp; omega
  have d3 : decide (4096 < size) = false := by simp; omega
  by_cases h1 : secs < 1 ∨ 256 < secs
  · have HR := znq (show r = 11 ∧ True from ⟨by rw [hr, if_neg h0, if_pos h1], trivial⟩)
    have hd : decide (secs < 1) = true ∨ (decide (secs < 1) = false ∧ decide (secs > 256) = true ∧ decide (256 < secs) = true) := by
      by_cases h2 : secs < 1
      · exact .inl (by simp; omega)
      · exact .inr ⟨by simp; omega, by simp; omega, by simp; omega⟩
    clear hr h0 h1
    rcases hd with e1 | ⟨e1, e2, e3⟩
    all_goals (
      go_enter Tryz.func28, Tryz.ntmps28
      go_wp2_with (refine zh 44 _ [.int .i64 alg, .int .i64 size, .int .i64 secs] _ rfl rfl rfl rfl ?_)
      intro w1 hb hbel; have HS := znq (HS.znr.push hb hbel); have hc := hb.cell 1 _ rfl; have hc2 := hb.cell 2 _ rfl; clear hb hbel
      go_wp2
      go_ret
      rw [HR.znr.1]
      exact ⟨rfl, HS.znr.bel⟩)
  have HR := znq (show r = (ni alg kn : Nat) ∧ True from ⟨by rw [hr, if_neg h0, if_neg h1], trivial⟩)
  have e1 : decide (secs < 1) = false := by simp; omega
  have e2 : decide (secs > 256) = false := by simp; omega
  have e3 : decide (256 < secs) = false := by simp; omega
  clear hr h0 h1
  go_enter Tryz.func28, Tryz.ntmps28
  go_wp2_with (refine zh 44 _ [.int .i64 alg, .int .i64 size, .int .i64 secs] _ rfl rfl rfl rfl ?_)
  intro w1 hb hbel; have HS := znq (HS.znr.push hb hbel); have hc := hb.cell 1 _ rfl; have hc2 := hb.cell 2 _ rfl; have hc0 := hb.cell 0 _ rfl; clear hb hbel
  go_wp2_with fail
  refine (qb alg ka kn kc _).mono ?_
  rintro e w2 ⟨rfl, rfl⟩
  go_wp2
  go_ret
  rw [HR.znr.1]
  exact ⟨rfl, HS.znr.bel⟩
def zik (alg size secs : Int) (a1 : Option Addr) (n1 c1 : Nat) (a2 : Option Addr) (n2 c2 : Nat) : List Value := [.int .i64 alg, .int .i64 size, .int .i64 secs, .slice a1 n1 c1, .slice a2 n2 c2]
theorem ztc (alg size secs : Int) (a1 : Option Addr) (n1 c1 : Nat) (a2 : Option Addr) (n2 c2 : Nat) (w : World) :
    Calls Tryz.prog 64 #[.agg (zik alg size secs a1 n1 c1 a2 n2 c2).toArray] w fun e w' => (∃ b, e = .returned (.bool b)) ∧ Below w.heap.size w w' := by
  have HS := znq (St.start w)
  have hd : (decide (size ≤ 64) = true ∧ decide (secs ≤ 5) = true) ∨ (decide (size ≤ 64) = true ∧ decide (secs ≤ 5) = false) ∨ decide (size ≤ 64) = false := by
    by_cases h1 : size ≤ 64
    · by_cases h2 : secs ≤ 5
      · exact .inl ⟨by simp; omega, by simp; omega⟩
      · exact .inr (.inl ⟨by simp; omega, by simp; omega⟩)
    · exact .inr (.inr (by simp; omega))
  have HW := znq (zlk alg size secs none 0 0)
  generalize nU alg size secs 0 = wr at *
  have hwr : (wr == 4) = true ∨ ((wr == 4) = false ∧ (wr == 11) = true) ∨ ((wr == 4) = false ∧ (wr == 11) = false) := by
    by_cases h1 : wr = 4
    · exact .inl (by simp; omega)
    · by_cases h2 : wr = 11
      · exact .inr (.inl ⟨by simp; omega, by simp; omega⟩)
      · exact .inr (.inr ⟨by simp; omega, by simp; omega⟩)
  rcases hd with ⟨d1, d2⟩ | hd
  · clear hwr
    go_enter Tryz.func64, Tryz.ntmps64
    go_wp2_with (refine zh 47 _ (zik alg size secs a1 n1 c1 a2 n2 c2) _ rfl rfl rfl rfl ?_)
    intro w1 hb hbel; have HS := znq (HS.znr.push hb hbel); have hc1 := hb.cell 1 _ rfl; have hc2 := hb.cell 2 _ rfl; clear hb hbel
    go_wp2
    go_ret
    exact ⟨⟨_, rfl⟩, HS.znr.bel⟩
  have hd : ∃ b1 b2, decide (size ≤ 64) = b1 ∧ decide (secs ≤ 5) = b2 ∧ (b1 && b2) = false := by
    rcases hd with ⟨d1, d2⟩ | d1
    · exact ⟨_, _, d1, d2, rfl⟩
    · exact ⟨_, _, d1, rfl, rfl⟩
  obtain ⟨b1, b2, d1, d2, d3⟩ := hd
  cases b1 <;> cases b2 <;> first | (exact absurd d3 (by decide)) | skip
  all_goals clear d3
  all_goals rcases hwr with f1 | ⟨f1, f2⟩ | ⟨f1, f2⟩
  all_goals (
    go_enter Tryz.func64, Tryz.ntmps64
    go_wp2_with (refine zh 47 _ (zik alg size secs a1 n1 c1 a2 n2 c2) _ rfl rfl rfl rfl ?_)
    intro w1 hb hbel; have HS := znq (HS.znr.push hb hbel); have hc0 := hb.cell 0 _ rfl; have hc1 := hb.cell 1 _ rfl; have hc2 := hb.cell 2 _ rfl; clear hb hbel
    go_wp2_with fail
    refine (HW.znr _).mono ?_
    rintro e w2 ⟨rfl, hbel⟩
    have HS := znq (HS.znr.later hbel)
    clear hbel hc0 hc1 hc2
    have hc0 := (HS.znr.get 0 rfl).cell 0 _ rfl
    have hc1 := (HS.znr.get 0 rfl).cell 1 _ rfl
    have hc2 := (HS.znr.get 0 rfl).cell 2 _ rfl
    first
      | (go_wp2; go_ret; exact ⟨⟨_, rfl⟩, HS.znr.bel⟩)
      | (go_wp2_with fail
         refine (HW.znr _).mono ?_
         rintro e w3 ⟨rfl, hbel⟩
         have HS := znq (HS.znr.later hbel)
         clear hbel
         go_wp2
         go_ret
         exact ⟨⟨_, rfl⟩, HS.znr.bel⟩))
theorem zq9 (alg size secs : Int) (a1 : Option Addr) (n1 c1 : Nat) (a2 : Option Addr) (n2 c2 : Nat) (xs : List zmm) (w : World) (hn : xs.length = n2) (hnm : n2 ≤ maxLen) (hx : zlo w a2 xs) :
    Calls Tryz.prog 27 #[.agg (zik alg size secs a1 n1 c1 a2 n2 c2).toArray] w fun e w' => (∃ b, e = .returned (.bool b) ∧ (b = true → n2 ≤ 12)) ∧ Below w.heap.size w w' := by
  have HS := znq (St.start w)
  have HN := znq hn
  have HX := znq hx
  unfold maxLen at hnm
  clear hn hx
  go_enter Tryz.func27, Tryz.ntmps27
  go_wp2_with (refine zh 47 _ (zik alg size secs a1 n1 c1 a2 n2 c2) _ rfl rfl rfl rfl ?_)
  intro w1 hb hbel; have HS := znq (HS.znr.push hb hbel); clear hb hbel
  have HX := znq (HX.znr.below HS.znr.bel)
  have hx4 := (HS.znr.get 0 rfl).cell 4 _ rfl
  go_wp2
  go_loopw [3] (fun c wr => ∃ i : Nat, i ≤ n2 ∧ c = .int .i64 i ∧ w1 = wr) (fun c _ => n2 - (intOf c).toNat)
  case atStart => exact ⟨0, by omega, rfl, rfl⟩
  case round =>
    obtain ⟨i, hi, rfl, rfl⟩ := hrel
    by_cases hlt : i < n2
    · obtain ⟨x, hxi⟩ : ∃ x, xs[i]? = some x := ⟨xs[i]'(by rw [HN.znr]; exact hlt), by simp⟩
      obtain ⟨_, b, off, rfl, _, hr⟩ := HX.znr.at hxi
      have hc := hr 2 (.slice x.ao x.bs.length x.cap) rfl
      have hd : decide ((x.bs.length : Int) > 200) = true ∨ decide ((x.bs.length : Int) > 200) = false := by cases decide ((x.bs.length : Int) > 200) <;> simp
      generalize x.bs.length = bn at *
      clear hxi hr
      rcases hd with d0 | d0
      · go_wp2
        go_ret
        exact ⟨⟨_, rfl, fun h => by cases h⟩, HS.znr.bel⟩
      · go_wp2
        go_roundw
        case rel => exact ⟨i + 1, by omega, by go_num, trivial⟩
        case measure => simp [intOf]; omega
    · obtain rfl : i = n2 := by omega
      have hx3 := (HS.znr.get 0 rfl).cell 3 _ rfl
      have hd1 : decide ((n1 : Int) ≤ 200) = true ∨ decide ((n1 : Int) ≤ 200) = false := by cases decide ((n1 : Int) ≤ 200) <;> simp
      rcases hd1 with d1 | d1
      rotate_left
      · go_wp2
        go_ret
        exact ⟨⟨_, rfl, fun h => by cases h⟩, HS.znr.bel⟩
      by_cases h12 : i ≤ 12
      rotate_left
      · have d2 : decide ((i : Int) ≤ 12) = false := by simp; omega
        go_wp2
        go_ret
        exact ⟨⟨_, rfl, fun h => by cases h⟩, HS.znr.bel⟩
      have d2 : decide ((i : Int) ≤ 12) = true := by simp; omega
      have hc0 := (HS.znr.get 0 rfl).cell 0 _ rfl
      have hc1 := (HS.znr.get 0 rfl).cell 1 _ rfl
      have hc2 := (HS.znr.get 0 rfl).cell 2 _ rfl
      go_wp2_with fail
      refine (ztc alg size secs a1 n1 c1 a2 i c2 _).mono ?_
      rintro e w2 ⟨⟨b, rfl⟩, hbel⟩
      have HS := znq (HS.znr.later hbel)
      clear hbel
      go_wp2
      go_ret
      exact ⟨⟨_, rfl, fun _ => h12⟩, HS.znr.bel⟩
theorem zq1 (w : World) (hg : pQ w) : Calls Tryz.prog 39 #[] w fun e w' => ∃ q p, e = .returned (.pointer (some ⟨q, 0, none⟩)) ∧ Tab w' q p ∧ (w.heap.size ≤ q ∧ w.heap.size ≤ p) ∧ Below w.heap.size w w' := by
  have HG := znq hg
  clear hg
  go_enter Tryz.func39, Tryz.ntmps39
  go_wp2_with fail
  refine (zfs _).mono ?_
  rintro e w1 ⟨p, rfl, hp, hb, hbel⟩
  have HB := znq hb
  have HL := znq hbel
  have HP := znq hp
  clear hb hbel hp
  go_wp2_with fail
  refine (zfI p boxes _ kX HB.znr (HG.znr.below HL.znr)).mono ?_
  rintro e w2 ⟨q, rfl, hq, hb2, mV⟩
  have HT := znq (show Tab w2 q p from ⟨HB.znr.below mV HB.znr.lt, hb2⟩)
  have HQ := znq (uj HL.znr.size hq)
  have HL := znq (HL.znr.trans (mV.mono HL.znr.size))
  clear mV hb2 hq
  go_wp2
  go_ret
  exact ⟨_, _, rfl, HT.znr, ⟨HQ.znr, HP.znr⟩, HL.znr⟩
def Made (F0 : List Nat) (w w' : World) (vp sp : Nat) (v : Vol) : Prop := ∃ q p np xp, y4 104 (vp :: sp :: F0) w' q vp sp v (y5 v) np xp ∧ zrr (vp :: sp :: F0) w' q p ∧ w.heap.size ≤ vp ∧ w.heap.size ≤ sp
theorem zng (F0 : List Nat) (alg : Int) (size secs : Nat) (a1 : Option Addr) (n1 c1 : Nat) (key : List UInt8) (a2 : Option Addr) (n2 c2 : Nat) (w : World) (hz : 16 ≤ size ∧ size ≤ 4096) (hs : 1 ≤ secs ∧ secs ≤ 256) (hw : ni alg n1 = 0) (hkn : key.length = n1) (hkc : n1 ≤ c1) (hkl : zr w a1 (key.map B)) (hg : pQ w) (hbg : qD w) (hF0 : ∀ i ∈ F0, i < w.heap.size) :
    Calls Tryz.prog 29 #[.agg (zik alg size secs a1 n1 c1 a2 n2 c2).toArray] w fun e w' => ∃ vp sp, e = .returned (.tuple #[.pointer (some ⟨vp, 0, none⟩), .int .i64 0]) ∧ Made F0 w w' vp sp (zim alg size secs key) ∧ Below w.heap.size w w' := by
  have HS := znq (St.start w)
  have HZ := znq hz
  have HSS := znq hs
  have HW := znq hw
  have HKN := znq hkn
  have HKL := znq hkl
  have HG := znq hg
  have HBG := znq hbg
  have HF0 := znq hF0
  clear hz hs hw hkn hkl hg hbg hF0
  go_enter Tryz.func29, Tryz.ntmps29
  go_wp2_with (refine zh 47 _ (zik alg size secs a1 n1 c1 a2 n2 c2) _ rfl rfl rfl rfl ?_)
  intro w1 hb hbel; have HS := znq (HS.znr.push hb hbel); clear hb hbel
  have hx0 := fun (y : zG w1.drew) => ((HS.znr.drew.later y.later).get 0 rfl).cell 0 _ rfl
  have hx1 := fun (y : zG w1.drew) => ((HS.znr.drew.later y.later).get 0 rfl).cell 1 _ rfl
  have hx2 := fun (y : zG w1.drew) => ((HS.znr.drew.later y.later).get 0 rfl).cell 2 _ rfl
  have hx3 := fun (y : zG w1.drew) => ((HS.znr.drew.later y.later).get 0 rfl).cell 3 _ rfl
  go_wp2_with fail
  refine zn [1, 2, 3, 4, 5, 6, 7, 8, 9, 10, 11, 12, 0, 13, 14, 15, 16, 17] (by kernel_rfl) (by kernel_rfl) ?_
  rintro w2 rfl
  refine mqR ?_
  clear hx0 hx1 hx2 hx3
  have HS := znq HS.znr.drew
  refine zi rfl rfl (by rfl) (fun K hK => ?_)
  go_simp
  refine (zq1 _ (HG.znr.below HS.znr.bel)).mono ?_
  rintro e w3 ⟨q, p, rfl, ht, hqp, hbel⟩
  have HT := znq ht
  have hz2 := HS.znr.size
  have HFQ := znq (show ∀ i ∈ F0, i < w3.heap.size ∧ i ≠ q ∧ i ≠ p from fun i hi => by have h := HF0.znr i hi; have h2 := hbel.size; omega)
  have HS := znq (HS.znr.later hbel)
  go_simp
  refine hK _ _ hbel ?_
  clear hK K hbel ht
  refine zi rfl rfl (by rfl) (fun K hK => ?_)
  go_simp
  refine (zr7 F0 q p alg size secs a1 n1 c1 key _ HZ.znr HSS.znr HW.znr HKN.znr hkc (HKL.znr.below HS.znr.bel) HT.znr (HBG.znr.below HS.znr.bel) HFQ.znr).mono ?_
  rintro e w4 ⟨vp, sp, np, rfl, hv, htb, h1, h2, hbel⟩
  have hz3 := HS.znr.size
  have HM := znq (show Made F0 w w4 vp sp (zim alg size secs key) from ⟨q, p, np, _, hv, htb, uj hz3 h1, uj hz3 h2⟩)
  have HS := znq (HS.znr.later hbel)
  go_simp
  refine hK _ _ hbel ?_
  clear hK K hbel hv htb h1 h2
  refine mqR ?_
  refine zo ?_
  go_wp2
  go_ret2
  exact ⟨_, _, rfl, HM.znr, HS.znr.bel⟩
end Go.Proofs.YtjaioajjfiaheaaGreatDoor

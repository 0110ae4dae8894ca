/-
  Texts of this claim, one behind the other.
-/
import Derived.Test.YtjaioajjfiaheaaGreatDoorR1
import Derived.Test.YtjaioajjfiaheaaGreatDoorR21
import Derived.Test.YtjaioajjfiaheaaGreatDoorR19
import Derived.Test.YtjaioajjfiaheaaGreatDoorR18
import Derived.Test.YtjaioajjfiaheaaGreatDoorR13
import Derived.Test.YtjaioajjfiaheaaGreatDoorR6
import Derived.Test.YtjaioajjfiaheaaGreatDoorR15
import Derived.Test.YtjaioajjfiaheaaGreatDoorR14
import Derived.Test.YtjaioajjfiaheaaGreatDoorR9
import Derived.Handy
import Derived.Lib.Hide
set_option linter.unusedVariables false
set_option linter.unusedSimpArgs false
set_option maxHeartbeats 16000000
set_option maxRecDepth 100000
namespace Go.Mem
open Go.RowKit Go.Cells Go.Ops
theorem zph {P:Program} (w:World) (t e:TypeId) (size:Nat) (ht:P.underlying t=some (.slice e)) (hs:(P.info? e).map (·.size)=some size) (ao:Option Addr) (len cap n:Nat) (h:n≤cap) :
  (Instr.slice t (.slice ao len cap) none (some (.int .i64 (n:Int))) (some (.int .i64 (n:Int)))).run P w=.ok (.slice ao n n) w:=by
 cases hq:P.info? e with
 | none=>rw [hq] at hs;cases hs
 | some x =>
  have hx:x.size=size:=by rw [hq] at hs;simpa using hs
  by_cases h0:n=0
  ·subst h0
   simp [Instr.slice,Instr.sliceBounds,Instr.sliceBound,run_underlying ht,sizeOf,typeInfo,hq,hx,asIntOf]
  ·have h0':¬ (n=0):=h0
   cases ao with
   | none=>simp [Instr.slice,Instr.sliceBounds,Instr.sliceBound,run_underlying ht,sizeOf,typeInfo,hq,hx,asIntOf,h,h0']
   | some a=>cases a;simp [Instr.slice,Instr.sliceBounds,Instr.sliceBound,run_underlying ht,sizeOf,typeInfo,hq,hx,asIntOf,h,h0',Addr.add]
theorem _root_.Go.Cells.Blk.cellAny {w:World} {b:Nat} {vs:List Value} {ty:TypeId} (h:Blk w b vs ty) (i:Nat):w.cell? ⟨b,i,none⟩=vs[i]?:=by
 unfold Blk at h
 simp [World.cell?,h]
theorem _root_.Go.Cells.Only.cellOther {b:Nat} {w w':World} (h:Only b w w') {c:Nat} (i:Nat) (hne:c≠b):w'.cell? ⟨c,i,none⟩=w.cell? ⟨c,i,none⟩:=by
 simp [World.cell?,h.block c hne]
theorem zr.only {w w':World} {ao:Option Addr} {xs vs:List Value} {b:Nat} {ty:TypeId} (h:zr w ao xs) (hb:Blk w b vs ty) (hne:∀ x∈xs,x∉vs) (ho:Only b w w'):zr w' ao xs:=by
 intro j u hu
 obtain ⟨c,off,e,hc⟩:=h j u hu
 refine ⟨c,off,e,?_⟩
 by_cases he:c=b
 ·subst he
  exfalso
  refine hne u (List.mem_of_getElem? hu) ?_
  have h1:w.cell? ⟨c,off+j,none⟩=vs[off+j]?:=hb.cellAny _
  rw [hc] at h1
  exact List.mem_of_getElem? h1.symm
 ·rw [← hc]
  exact ho.cellOther _ he
theorem Str.In.only {w w':World} {s:Str} {vs:List Value} {b:Nat} {ty:TypeId} (h:s.In w) (hb:Blk w b vs ty) (hne:∀ x:UInt8,B x∉vs) (ho:Only b w w'):s.In w' :=
 ⟨h.le,h.lies.only hb (by intro x hx;obtain ⟨y,_,rfl⟩:=List.mem_map.1 hx;exact hne y) ho⟩
theorem xY.only {w w':World} {ao:Option Addr} {ss:List Str} {vs:List Value} {b:Nat} {ty:TypeId} (h:xY w ao ss) (hb:Blk w b vs ty) (h1:∀ s∈ss,s.val∉vs) (hne:∀ x:UInt8,B x∉vs) (ho:Only b w w'):xY w' ao ss :=
 ⟨h.lies.only hb (by intro x hx;obtain ⟨y,hy,rfl⟩:=List.mem_map.1 hx;exact h1 y hy) ho,fun s hs=>(h.each s hs).only hb hne ho⟩
end Go.Mem
namespace Go.Cells
open Go.RowKit
theorem zpb {P:Program} {w:World} {op:Oper} {a:Act} {K:Act→World→Prop} {Q:Exit→Act→World→Prop} (t e:TypeId) (z:Value) (by':Nat) (n:Nat) {l c:Operand} {kl kc:IntKind} {L C:Int}
  (hop:op.op=Op.makeSlice t l c) (hl:a.eval l=.int kl L) (hc:a.eval c=.int kc C) (h1:P.underlying t=some (.slice e)) (hi:(P.info? e).map (fun i=>(i.zero,i.size,i.bytes))=some (some z,1,by')) (hz:z.cells=#[z])
  (hL:L=(n:Int)) (hC:C=(n:Int)) (b2:by'*n≤281474976710656) (b3:n≤maxLen)
  (k:∀ w',Blk w' w.heap.size (List.replicate n z) e→Below w.heap.size w w'→K (a.put op.dst (.slice (some ⟨w.heap.size,0,none⟩) n n)) w'):op.wp P a w K Q:=by
 obtain ⟨i0,hi0,hz0,hz1,hz2⟩:=info_parts hi
 obtain ⟨w',hrun,hown,hgrow⟩:=run_make_full (P:=P) w w.heap.size t e i0 z 1 h1 hi0 hz0 hz1 kl kc n (by rw [hz2];exact b2) b3 (Nat.le_refl _)
 subst hL
 subst hC
 have hb:=(KX hown).1
 have e1:(madeCells z.cells (n*1)).toList=List.replicate n z:=by
  rw [hz,Nat.mul_one,toList_madeCells_one]
 rw [e1] at hb
 unfold Oper.wp
 simp [execOp,hop,hl,hc,hrun,Result.andThen]
 exact k w' hb ((Below.refl w.heap.size w).grown hgrow (Nat.le_refl _) (fun k h=>by cases h))
end Go.Cells
namespace Go.Proofs.YtjaioajjfiaheaaGreatDoor
open Go.RowKit Go.Mem Go.Ops Go.Cells Go.Oct Go.Gf Go.Trn Go.Aes Go.Ring Go.Ezk Go.Ezh Go.Ezt Go.Aez Go.Blake Go.CutP Go.Fl
attribute [local irreducible] zE zN zO zM yu
theorem k7:Row Tryz.prog 130 3:=⟨by kernel_rfl,by kernel_rfl⟩
theorem znw:(Tryz.prog.info? 130).map (·.zero)=some (some (.agg #[.nilFunc,.nilFunc,.nilFunc])):=by kernel_rfl
theorem zoj:(Tryz.prog.info? 23).map (·.zero)=some (some (.slice none 0 0)):=by kernel_rfl
theorem zok:(Tryz.prog.info? 23).map (·.size)=some 1:=by kernel_rfl
def zou (bc br bt:Nat):List Value:=[.func (.func 102) #[] #[.pointer (some ⟨bc,0,none⟩),.pointer (some ⟨br,0,none⟩)],.func (.func 103) #[] #[.pointer (some ⟨bc,0,none⟩),.pointer (some ⟨br,0,none⟩)],.func (.func 104) #[] #[.pointer (some ⟨bc,0,none⟩),.pointer (some ⟨br,0,none⟩),.pointer (some ⟨bt,0,none⟩)]]
structure Bnd (w:World) (bc br cp kp q p:Nat) (k:zv) (a:Addr) (ss:List Str):Prop where
 c:Blk w bc [.pointer (some ⟨cp,0,none⟩)] 28
 r:Blk w br [.slice (some a) 2 2] 23
 ciph:zab w cp kp q p k
 len:ss.length=2
 strs:xY w (some a) ss
 lens:∀ s∈ss,s.bs.length≤10000
theorem Bnd.later {w w':World} {bc br cp kp q p:Nat} {k:zv} {a:Addr} {ss:List Str} (h:Bnd w bc br cp kp q p k a ss) (hb:Below w.heap.size w w'):Bnd w' bc br cp kp q p k a ss :=
 ⟨h.c.below hb h.c.lt,h.r.below hb h.r.lt,h.ciph.later hb,h.len,h.strs.below hb,h.lens⟩
theorem zom (bc br bt:Nat):∀ v∈zou bc br bt,v.oneCell'=true:=by simp [zou,Value.oneCell']
abbrev Wz (us:Nat→Value):Act:={ tmps:=#[us 0,us 1,us 2,us 3,us 4,us 5,us 6,us 7,us 8,us 9,us 10,us 11,us 12,us 13,us 14,us 15,us 16,us 17,us 18,us 19,us 20,us 21,us 22,us 23,us 24,us 25,us 26,us 27,us 28,us 29,us 30,us 31,us 32,us 33,us 34,us 35,us 36,us 37,us 38,us 39,us 40,us 41,us 42,us 43,us 44,us 45,us 46,us 47,us 48,us 49,us 50,us 51,us 52,us 53,us 54,us 55,us 56,us 57,us 58,us 59,us 60,us 61,us 62,us 63,us 64,us 65,us 66,us 67],defers:=[] }
def zkh (N:Prop) (w:World) (x:Act) (wr:World):Prop:=∃ us:Nat→Value,x=Wz us∧Hid N∧Hid (Below w.heap.size w wr)
theorem zkh.intro {N:Prop} {w:World} {x:Act} {wr:World} (hx:x=Wz (fun i=>x.tmps.getD i undef)) (h1:N) (h2:Below w.heap.size w wr):zkh N w x wr:=⟨_,hx,h1,h2⟩
end Go.Proofs.YtjaioajjfiaheaaGreatDoor
namespace Go
open Go.RowKit
section
variable {P:Program} {ops:Array Oper} {Q:Exit→Act→World→Prop}
def zH.make (i:Nat) (d:Tmp) (e:TypeId) (vs:List Value):zH:=⟨i,d,.cells vs.toArray e,fun n=>.slice (some ⟨n,0,none⟩) vs.length vs.length⟩
@[go_sem,simp] theorem make_dst (i:Nat) (d:Tmp) (t:TypeId) (vs:List Value):(zH.make i d t vs).dst=d:=rfl
@[go_sem,simp] theorem make_val (i:Nat) (d:Tmp) (t:TypeId) (vs:List Value) (n:Nat):(zH.make i d t vs).val n=.slice (some ⟨n,0,none⟩) vs.length vs.length:=rfl
@[go_sem,simp] theorem make_obj (i:Nat) (d:Tmp) (t:TypeId) (vs:List Value):(zH.make i d t vs).obj=.cells vs.toArray t:=rfl
theorem WA {a:Act} {w:World} (i:Nat) (d:Tmp) (e t:TypeId) (vs:List Value) (o:Oper) {l c:Operand} (ho:ops[i]? = some o) (hop:o.op=.makeSlice t l c) (hd:o.dst=some d) (hg:o.guard=none) (hsz:d < a.tmps.size)
  (hrun:∀ w',(Instr.makeSlice t (a.eval l) (a.eval c)).run P w'=.ok (.slice (some ⟨w'.heap.size,0,none⟩) vs.length vs.length) (w'.alloc (.cells vs.toArray e))):(zH.make i d e vs).Fits P ops a w:=by
 refine ⟨hsz,o,ho,hd,hg,by simp [hop],fun w' _=>?_⟩
 simp [execOp,hop,hrun,zH.make]
end
end Go
namespace Go.Proofs.YtjaioajjfiaheaaGreatDoor
open Go.RowKit Go.Mem Go.Ops Go.Cells Go.Oct Go.Gf Go.Trn Go.Aes Go.Ring Go.Ezk Go.Ezh Go.Ezt Go.Ezc Go.Aez Go.Blake Go.CutP Go.Fl Go.Wid
attribute [local irreducible] zE zN zO zM yu
theorem Kt (w:World):(Instr.makeSlice 22 (.int .i64 32) (.int .i64 32)).run Tryz.prog w=.ok (.slice (some ⟨w.heap.size,0,none⟩) 32 32) (w.alloc (.cells ((zf 32).map B).toArray 5)):=by kernel_rfl
def Zd (t:List UInt8) (ao:Option Addr) (cap:Nat):List Str:=[⟨ao,cap,t⟩]
theorem zc2 (kp q p:Nat) (k:zv) (ao:Option Addr) (tn tc:Nat) (t:List UInt8) (bo:Option Addr) (n cb:Nat) (m:List UInt8) (w:World) (hk:xH w kp q p k) (ht:t.length=tn) (ht1:tn≤10000) (htc:tn≤tc) (hlt:zr w ao (t.map B))
  (hn:m.length=n) (h1:1≤n) (h31:n≤20000) (hcb:n≤cb) (hl:zr w bo (m.map B)) :
  Calls Tryz.prog 204 #[.agg #[.pointer (some ⟨kp,0,none⟩)],.slice ao tn tc,.slice bo n cb] w fun e w'=>∃ v,e=.returned (.tuple #[v,.int .i64 0])∧w'.ownsRow w.heap.size 5 1 v n ((rowA k [t] m false).map B)∧Below w.heap.size w w':=by
 have HK:=znq hk
 have HT:=znq ht
 have HLT:=znq hlt
 have HN:=znq hn
 have HL:=znq hl
 clear hk ht hlt hn hl
 go_enter Tryz.func204,Tryz.ntmps204
 go_wp2_with (refine zh 93 _ [.pointer (some ⟨kp,0,none⟩)] _ rfl rfl rfl rfl ?_)
 intro w1 hb hbel
 have HBK:=znq hb
 have HB:=znq hbel
 clear hb hbel
 go_wp2_with (refine HBK.znr.wload rfl rfl rfl jv rfl ?_)
 go_wp2_with fail
 have HSS:=znq (show xY (w1.alloc (.cells #[.slice ao tn tc] 22)) (some ⟨w1.heap.size,0,none⟩) (Zd t ao tc) from by
  refine ⟨?_,?_⟩
  ·have:=(Blk.new w1 [.slice ao tn tc] 22).lies
   simpa [Zd,Str.val,HT.znr] using this
  ·intro s hs
   simp [Zd] at hs
   subst hs
   exact ⟨by rw [HT.znr];exact htc,(HLT.znr.below HB.znr).below (zD _ _)⟩)
 have HB:=znq (HB.znr.trans ((zD w1 (.cells #[.slice ao tn tc] 22)).mono HB.znr.size))
 generalize w1.alloc (.cells #[.slice ao tn tc] 22)=w2 at *
 refine (zci kp q p k (some ⟨w1.heap.size,0,none⟩) 1 1 (Zd t ao tc) bo n cb m false _ (HK.znr.later HB.znr) rfl (by omega) HSS.znr (by intro s hs;simp [Zd] at hs;subst hs;rw [HT.znr];exact ht1) HN.znr h1 h31 hcb (HL.znr.below HB.znr)).mono ?_
 rintro e w3 ⟨v3,rfl,hown,hbel⟩
 have HO:=znq (yi hown HB.znr.size)
 have HB:=znq (HB.znr.trans (hbel.mono HB.znr.size))
 clear hown hbel
 go_wp2
 go_ret2
 exact ⟨_,rfl,HO.znr,HB.znr⟩
theorem zc3 (kp q p:Nat) (k:zv) (ao:Option Addr) (tn tc:Nat) (t:List UInt8) (bo:Option Addr) (n cb:Nat) (m:List UInt8) (w:World) (hk:xH w kp q p k) (ht:t.length=tn) (ht1:tn≤10000) (htc:tn≤tc) (hlt:zr w ao (t.map B))
  (hn:m.length=n) (h1:1≤n) (h31:n≤20000) (hcb:n≤cb) (hl:zr w bo (m.map B)) :
  Calls Tryz.prog 203 #[.agg #[.pointer (some ⟨kp,0,none⟩)],.slice ao tn tc,.slice bo n cb] w fun e w'=>∃ v,e=.returned (.tuple #[v,.int .i64 0])∧w'.ownsRow w.heap.size 5 1 v n ((rowA k [t] m true).map B)∧Below w.heap.size w w':=by
 have HK:=znq hk
 have HT:=znq ht
 have HLT:=znq hlt
 have HN:=znq hn
 have HL:=znq hl
 clear hk ht hlt hn hl
 go_enter Tryz.func203,Tryz.ntmps203
 go_wp2_with (refine zh 93 _ [.pointer (some ⟨kp,0,none⟩)] _ rfl rfl rfl rfl ?_)
 intro w1 hb hbel
 have HBK:=znq hb
 have HB:=znq hbel
 clear hb hbel
 go_wp2_with (refine HBK.znr.wload rfl rfl rfl jv rfl ?_)
 go_wp2_with fail
 have HSS:=znq (show xY (w1.alloc (.cells #[.slice ao tn tc] 22)) (some ⟨w1.heap.size,0,none⟩) (Zd t ao tc) from by
  refine ⟨?_,?_⟩
  ·have:=(Blk.new w1 [.slice ao tn tc] 22).lies
   simpa [Zd,Str.val,HT.znr] using this
  ·intro s hs
   simp [Zd] at hs
   subst hs
   exact ⟨by rw [HT.znr];exact htc,(HLT.znr.below HB.znr).below (zD _ _)⟩)
 have HB:=znq (HB.znr.trans ((zD w1 (.cells #[.slice ao tn tc] 22)).mono HB.znr.size))
 generalize w1.alloc (.cells #[.slice ao tn tc] 22)=w2 at *
 refine (zci kp q p k (some ⟨w1.heap.size,0,none⟩) 1 1 (Zd t ao tc) bo n cb m true _ (HK.znr.later HB.znr) rfl (by omega) HSS.znr (by intro s hs;simp [Zd] at hs;subst hs;rw [HT.znr];exact ht1) HN.znr h1 h31 hcb (HL.znr.below HB.znr)).mono ?_
 rintro e w3 ⟨v3,rfl,hown,hbel⟩
 have HO:=znq (yi hown HB.znr.size)
 have HB:=znq (HB.znr.trans (hbel.mono HB.znr.size))
 clear hown hbel
 go_wp2
 go_ret2
 exact ⟨_,rfl,HO.znr,HB.znr⟩
end Go.Proofs.YtjaioajjfiaheaaGreatDoor
namespace Go.Proofs.YtjaioajjfiaheaaGreatDoor
open Go.RowKit Go.Mem Go.Ops Go.Cells Go.Oct Go.Gf Go.Trn Go.Aes Go.Ring Go.Ezk Go.Ezh Go.Ezt Go.Ezc Go.Aez Go.Blake Go.CutP Go.Fl Go.Wid
attribute [local irreducible] zE zN zO zM yu
theorem J2 (n:Nat) (w:World):Calls Tryz.prog 81 #[.int .i64 n] w fun e w'=>e=.returned (.bool (decide (n=16∨n=24∨n=32)))∧w=w':=by
 by_cases h1:n=16
 ·subst h1
  have e1:decide (16=16∨16=24∨16=32)=true:=rfl
  rw [e1]
  go_enter Tryz.func81,Tryz.ntmps81
  go_wp2
  go_ret
  exact ⟨rfl,rfl⟩
 ·have d1:((n:Int)==16)=false:=by simp;omega
  by_cases h2:n=24
  ·subst h2
   have e1:decide (24=16∨24=24∨24=32)=true:=rfl
   rw [e1]
   go_enter Tryz.func81,Tryz.ntmps81
   go_wp2
   go_ret
   exact ⟨rfl,rfl⟩
  ·have d2:((n:Int)==24)=false:=by simp;omega
   have e1:decide (n=16∨n=24∨n=32)=((n:Int)==32):=by
    by_cases h3:n=32
    ·subst h3;rfl
    ·have:((n:Int)==32)=false:=by simp;omega
     rw [this];simp;omega
   rw [e1]
   go_enter Tryz.func81,Tryz.ntmps81
   go_wp2
   go_ret
   exact ⟨rfl,rfl⟩
theorem J3 (ao:Option Addr) (n cap:Nat) (w:World):Calls Tryz.prog 44 #[.slice ao n cap] w fun e w'=>e=.returned (.bool (decide (0 < n∧n≤128)))∧w=w':=by
 by_cases h0:n=0
 ·subst h0
  have d1:decide (0 < 0∧0≤128)=false:=by decide
  rw [d1]
  go_enter Tryz.func44,Tryz.ntmps44
  go_wp2
  go_ret
  exact ⟨rfl,rfl⟩
 ·have d0:decide ((n:Int) > 0)=true:=by simp;omega
  by_cases h1:n≤128
  ·have d1:decide (0 < n∧n≤128)=true:=by simp;omega
   have d2:decide ((n:Int)≤128)=true:=by simp;omega
   rw [d1]
   go_enter Tryz.func44,Tryz.ntmps44
   go_wp2
   go_ret
   exact ⟨rfl,rfl⟩
  ·have d1:decide (0 < n∧n≤128)=false:=by simp;omega
   have d2:decide ((n:Int)≤128)=false:=by simp;omega
   rw [d1]
   go_enter Tryz.func44,Tryz.ntmps44
   go_wp2
   go_ret
   exact ⟨rfl,rfl⟩
theorem qb (alg:Int) (ao:Option Addr) (n cap:Nat) (w:World):Calls Tryz.prog 52 #[.int .i64 alg,.slice ao n cap] w fun e w'=>e=.returned (.int .i64 (znv alg n))∧w=w':=by
 by_cases h1:alg=1
 ·subst h1
  by_cases h2:n=32
  ·subst h2
   have e:znv 1 32=0:=rfl
   rw [e]
   go_enter Tryz.func52,Tryz.ntmps52
   go_wp2
   go_ret
   exact ⟨rfl,rfl⟩
  ·have e:znv 1 n=2:=by unfold znv;rw [if_pos rfl,if_neg h2]
   have d:((n:Int) != 32)=true:=by simp;omega
   rw [e]
   go_enter Tryz.func52,Tryz.ntmps52
   go_wp2
   go_ret
   exact ⟨rfl,rfl⟩
 ·by_cases h2:alg=2
  ·subst h2
   by_cases h3:n=16∨n=24∨n=32
   ·have e:znv 2 n=0:=by unfold znv;rw [if_neg (by omega),if_pos rfl,if_pos h3]
    have d:decide (n=16∨n=24∨n=32)=true:=by simpa using h3
    rw [e]
    clear h3
    go_enter Tryz.func52,Tryz.ntmps52
    go_wp2_with fail
    refine (J2 n _).mono ?_
    rintro e w1 ⟨rfl,rfl⟩
    rw [d]
    go_wp2
    go_ret
    exact ⟨rfl,rfl⟩
   ·have e:znv 2 n=2:=by unfold znv;rw [if_neg (by omega),if_pos rfl,if_neg h3]
    have d:decide (n=16∨n=24∨n=32)=false:=by simpa using h3
    rw [e]
    clear h3
    go_enter Tryz.func52,Tryz.ntmps52
    go_wp2_with fail
    refine (J2 n _).mono ?_
    rintro e w1 ⟨rfl,rfl⟩
    rw [d]
    go_wp2
    go_ret
    exact ⟨rfl,rfl⟩
  ·by_cases h3:alg=3
   ·subst h3
    by_cases h4:0 < n∧n≤128
    ·have e:znv 3 n=0:=by unfold znv;rw [if_neg (by omega),if_neg (by omega),if_pos rfl,if_pos h4]
     have d:decide (0 < n∧n≤128)=true:=by simpa using h4
     rw [e]
     clear h4
     go_enter Tryz.func52,Tryz.ntmps52
     go_wp2_with fail
     refine (J3 ao n cap _).mono ?_
     rintro e w1 ⟨rfl,rfl⟩
     rw [d]
     go_wp2
     go_ret
     exact ⟨rfl,rfl⟩
    ·have e:znv 3 n=2:=by unfold znv;rw [if_neg (by omega),if_neg (by omega),if_pos rfl,if_neg h4]
     have d:decide (0 < n∧n≤128)=false:=by simp;omega
     rw [e]
     clear h4
     go_enter Tryz.func52,Tryz.ntmps52
     go_wp2_with fail
     refine (J3 ao n cap _).mono ?_
     rintro e w1 ⟨rfl,rfl⟩
     rw [d]
     go_wp2
     go_ret
     exact ⟨rfl,rfl⟩
   ·have e:znv alg n=8:=by unfold znv;rw [if_neg h1,if_neg h2,if_neg h3]
    rw [e]
    by_cases h4:alg < 1
    ·have d:decide (alg < 1)=true:=by simp;omega
     go_enter Tryz.func52,Tryz.ntmps52
     go_wp2
     go_ret
     exact ⟨rfl,rfl⟩
    ·have d:decide (alg < 1)=false:=by simp;omega
     have d2:decide (alg > 3)=true:=by simp;omega
     go_enter Tryz.func52,Tryz.ntmps52
     go_wp2
     go_ret
     exact ⟨rfl,rfl⟩
theorem J4 (alg:Int) (w:World):Calls Tryz.prog 21 #[.int .i64 alg] w fun e w'=>e=.returned (.int .i64 (wg alg))∧w=w':=by
 by_cases h3:alg=3
 ·subst h3
  have e:wg 3=1:=rfl
  rw [e]
  go_enter Tryz.func21,Tryz.ntmps21
  go_wp2
  go_ret
  exact ⟨rfl,rfl⟩
 ·have e:wg alg=16:=by unfold wg;rw [if_neg h3]
  have d:(alg==3)=false:=by simp;omega
  rw [e]
  go_enter Tryz.func21,Tryz.ntmps21
  go_wp2
  go_ret
  exact ⟨rfl,rfl⟩
end Go.Proofs.YtjaioajjfiaheaaGreatDoor
namespace Go.Wid
end Go.Wid
namespace Go.Proofs.YtjaioajjfiaheaaGreatDoor
open Go.RowKit Go.Mem Go.Ops Go.Cells Go.Oct Go.Gf Go.Trn Go.Aes Go.Ring Go.Ezk Go.Ezh Go.Ezt Go.Ezc Go.Aez Go.Blake Go.CutP Go.Fl Go.Wid
attribute [local irreducible] zE zN zO zM yu
end Go.Proofs.YtjaioajjfiaheaaGreatDoor
namespace Go.Proofs.YtjaioajjfiaheaaGreatDoor
open Go.RowKit Go.Mem Go.Ops Go.Cells Go.Oct Go.Trn Go.Adi Go.Hct
attribute [local irreducible] zE zN zO zM yJ
theorem up_ok (p:UInt64×UInt64) (w:World):Calls Tryz.prog 262 #[.agg (zQ p).toArray] w fun e w'=>e=.returned (.agg (zQ (upR p)).toArray)∧Below w.heap.size w w':=by
 have HS:=znq (St.start w)
 go_enter Tryz.func262,Tryz.ntmps262
 go_wp2_with (refine zh 119 _ (zQ p) _ rfl rfl rfl rfl ?_)
 intro w1 hb hbel;have HS:=znq (HS.znr.push hb hbel);have hlt1:=hb.lt;clear hb hbel
 go_wp2_with (refine ze 119 ([L 0,L 0]) _ rfl rfl zT rfl ?_)
 intro w2 hb hbel;have HS:=znq (HS.znr.push hb hbel);have hlt2:=hb.lt;clear hb hbel
 generalize hbb:w.heap.size=bb at *
 generalize w1.heap.size=b1 at *
 have HBB:=znq hbb
 clear hbb
 have hx0:=(HS.znr.get 1 rfl).cell 0 (L p.1) rfl
 have hx1:=(HS.znr.get 1 rfl).cell 1 (L p.2) rfl
 go_wp2_with (refine (HS.znr.get 0 rfl).wstore rfl rfl rfl (cs:=zQ (upR p)) rfl zq rfl rfl (zX _) ?_)
 intro w4 hb ho
 have HE:=znq (zk HS.znr.bel ho (by omega))
 clear ho hx0 hx1
 go_wp2
 refine hb.result rfl rfl rfl zq rfl ⟨rfl,?_⟩
 rw [HBB.znr]
 exact HE.znr
theorem zmt (p:UInt64×UInt64) (w:World):Calls Tryz.prog 263 #[.agg (zQ p).toArray] w fun e w'=>e=.returned (.agg (zQ (downR p)).toArray)∧Below w.heap.size w w':=by
 have HS:=znq (St.start w)
 go_enter Tryz.func263,Tryz.ntmps263
 go_wp2_with (refine zh 119 _ (zQ p) _ rfl rfl rfl rfl ?_)
 intro w1 hb hbel;have HS:=znq (HS.znr.push hb hbel);have hlt1:=hb.lt;clear hb hbel
 go_wp2_with (refine ze 119 ([L 0,L 0]) _ rfl rfl zT rfl ?_)
 intro w2 hb hbel;have HS:=znq (HS.znr.push hb hbel);have hlt2:=hb.lt;clear hb hbel
 generalize hbb:w.heap.size=bb at *
 generalize w1.heap.size=b1 at *
 have HBB:=znq hbb
 clear hbb
 have hx0:=(HS.znr.get 1 rfl).cell 0 (L p.1) rfl
 have hx1:=(HS.znr.get 1 rfl).cell 1 (L p.2) rfl
 go_wp2_with (refine (HS.znr.get 0 rfl).wstore rfl rfl rfl (cs:=zQ (downR p)) rfl zq rfl rfl (zX _) ?_)
 intro w4 hb ho
 have HE:=znq (zk HS.znr.bel ho (by omega))
 clear ho hx0 hx1
 go_wp2
 refine hb.result rfl rfl rfl zq rfl ⟨rfl,?_⟩
 rw [HBB.znr]
 exact HE.znr
theorem J8 (p q:UInt64×UInt64) (f:UInt64) (w:World):Calls Tryz.prog 261 #[.agg (zQ p).toArray,.agg (zQ q).toArray,L f] w fun e w'=>e=.returned (.agg (zQ (plusR p q f)).toArray)∧Below w.heap.size w w':=by
 have HS:=znq (St.start w)
 go_enter Tryz.func261,Tryz.ntmps261
 go_wp2_with (refine zh 119 _ (zQ p) _ rfl rfl rfl rfl ?_)
 intro w1 hb hbel;have HS:=znq (HS.znr.push hb hbel);have hlt1:=hb.lt;clear hb hbel
 go_wp2_with (refine zh 119 _ (zQ q) _ rfl rfl rfl rfl ?_)
 intro w2 hb hbel;have HS:=znq (HS.znr.push hb hbel);have hlt2:=hb.lt;clear hb hbel
 go_wp2_with (refine ze 119 ([L 0,L 0]) _ rfl rfl zT rfl ?_)
 intro w3 hb hbel;have HS:=znq (HS.znr.push hb hbel);have hlt3:=hb.lt;clear hb hbel
 generalize hbb:w.heap.size=bb at *
 generalize w1.heap.size=b1 at *
 generalize w2.heap.size=b2 at *
 have HBB:=znq hbb
 clear hbb
 have hx0:=(HS.znr.get 2 rfl).cell 0 (L p.1) rfl
 have hx1:=(HS.znr.get 2 rfl).cell 1 (L p.2) rfl
 have hy0:=(HS.znr.get 1 rfl).cell 0 (L q.1) rfl
 have hy1:=(HS.znr.get 1 rfl).cell 1 (L q.2) rfl
 go_wp2_with (refine (HS.znr.get 0 rfl).wstore rfl rfl rfl (cs:=zQ (plusR p q f)) rfl zq rfl rfl (zX _) ?_)
 intro w4 hb ho
 have HE:=znq (zk HS.znr.bel ho (by omega))
 clear ho hx0 hx1 hy0 hy1
 go_wp2
 refine hb.result rfl rfl rfl zq rfl ⟨rfl,?_⟩
 rw [HBB.znr]
 exact HE.znr
theorem bit_ok (p:UInt64×UInt64) (i:Nat) (w:World) (hi:i < 128):Calls Tryz.prog 264 #[.agg (zQ p).toArray,.int .i64 i] w fun e w'=>e=.returned (L (bitR p i))∧Below w.heap.size w w':=by
 have HS:=znq (St.start w)
 obtain ⟨b,hb⟩:∃ b,b=bitR p i:=⟨_,rfl⟩
 rw [← hb]
 go_enter Tryz.func264,Tryz.ntmps264
 go_wp2_with (refine zh 119 _ (zQ p) _ rfl rfl rfl rfl ?_)
 intro w1 hb hbel;have HS:=znq (HS.znr.push hb hbel);have hlt1:=hb.lt;clear hb hbel
 generalize hbb:w.heap.size=bb at *
 have HBB:=znq hbb
 clear hbb
 have hx0:=(HS.znr.get 0 rfl).cell 0 (L p.1) rfl
 have hx1:=(HS.znr.get 0 rfl).cell 1 (L p.2) rfl
 by_cases h:i < 64
 ·have hd:decide ((i:Int) < 64)=true:=by simp;omega
  have HBE:=znq (show b=xk (yp p.1 i) 1∧True from ⟨by rw [hb,bitR,if_pos h],trivial⟩)
  clear hb
  go_wp2
  refine ⟨rfl,_,results_tmp rfl _ _ _,?_⟩
  rw [HBB.znr]
  exact ⟨by rw [HBE.znr.1];rfl,HS.znr.bel⟩
 ·have hd:decide ((i:Int) < 64)=false:=by simp;omega
  obtain ⟨j,rfl⟩:∃ j,i=64+j:=⟨i - 64,by omega⟩
  have HBE:=znq (show b=xk (yp p.2 j) 1∧True from ⟨by rw [hb,bitR,if_neg h,Nat.add_sub_cancel_left],trivial⟩)
  have hj:IntKind.i64.wrap (((64+j:Nat):Int) - 64)=j:=by rw [IntWalk.i64_in _ (by omega)];omega
  clear hb
  go_wp2
  refine ⟨rfl,_,results_tmp rfl _ _ _,?_⟩
  rw [HBB.znr]
  exact ⟨by rw [HBE.znr.1];rfl,HS.znr.bel⟩
theorem dot_ok (p q:UInt64×UInt64) (w:World):Calls Tryz.prog 260 #[.agg (zQ p).toArray,.agg (zQ q).toArray] w fun e w'=>e=.returned (.agg (zQ (dotR p q)).toArray)∧Below w.heap.size w w':=by
 have HS:=znq (St.start w)
 go_enter Tryz.func260,Tryz.ntmps260
 go_wp2_with (refine zh 119 _ (zQ p) _ rfl rfl rfl rfl ?_)
 intro w1 hb hbel;have HS:=znq (HS.znr.push hb hbel);have hlt1:=hb.lt;clear hb hbel
 go_wp2_with (refine zh 119 _ (zQ q) _ rfl rfl rfl rfl ?_)
 intro w2 hb hbel;have HS:=znq (HS.znr.push hb hbel);have hlt2:=hb.lt;clear hb hbel
 go_wp2_with (refine ze 119 (zQ (0,0)) _ rfl rfl zT rfl ?_)
 intro w3 hb hbel;have HS:=znq (HS.znr.push hb hbel);have hlt3:=hb.lt;clear hb hbel
 go_wp2_with (refine ze 119 (zQ (0,0)) _ rfl rfl zT rfl ?_)
 intro w4 hb hbel;have HS:=znq (HS.znr.push hb hbel);have hlt4:=hb.lt;clear hb hbel
 generalize hbb:w.heap.size=bb at *
 generalize w1.heap.size=b1 at *
 generalize w2.heap.size=b2 at *
 generalize w3.heap.size=b3 at *
 have HBB:=znq hbb
 clear hbb
 go_wp2
 go_loopw [7] (fun c wr=>∃ (i:Nat) (s:UInt64×UInt64),i≤128∧c=.int .i64 i∧Hid (s=zgc p q i∧True)∧Hid (St w bb wr [(b3,zQ s,119),(b2,zQ (0,0),119),(b1,zQ q,119),(bb,zQ p,119)])) (fun c _=>128 - (intOf c).toNat)
 case atStart=>exact ⟨0,(0,0),by omega,rfl,znq ⟨rfl,trivial⟩,HS⟩
 case round =>
  clear HS
  obtain ⟨i,s,hi,rfl,HE,HS⟩:=hrel
  by_cases hlt:i < 128
  ·have hd:decide ((i:Int) < 128)=true:=by simp;omega
   go_wp2_with fail
   refine zn [0,1,2,3,4,5,6,7] (by kernel_rfl) (by kernel_rfl) ?_
   rintro w5 rfl
   have HS:=znq HS.znr.drew
   refine zt (HS.znr.get 0 rfl).range (HS.znr.get 0 rfl).lt zq rfl rfl rfl rfl rfl (fun K hK=>?_)
   go_simp;refine hK _ ?_;clear hK K
   refine zt (HS.znr.get 3 rfl).range (HS.znr.get 3 rfl).lt zq rfl rfl rfl rfl rfl (fun K hK=>?_)
   go_simp;refine hK _ ?_;clear hK K
   refine zt (HS.znr.get 2 rfl).range (HS.znr.get 2 rfl).lt zq rfl rfl rfl rfl rfl (fun K hK=>?_)
   go_simp;refine hK _ ?_;clear hK K
   refine mqR ?_
   refine zi rfl rfl (by rfl) (fun K hK=>?_)
   go_simp
   refine (bit_ok q i _ hlt).mono ?_
   rintro e w6 ⟨rfl,hbel⟩
   have HS:=znq (HS.znr.later hbel)
   go_simp
   refine hK _ _ hbel ?_
   clear hK K hbel
   refine zi rfl rfl (by rfl) (fun K hK=>?_)
   go_simp
   refine (J8 s p (bitR q i) _).mono ?_
   rintro e w7 ⟨rfl,hbel⟩
   have HS:=znq (HS.znr.later hbel)
   go_simp
   refine hK _ _ hbel ?_
   clear hK K hbel
   refine zi rfl rfl (by rfl) (fun K hK=>?_)
   go_simp
   refine (zmt (plusR s p (bitR q i)) _).mono ?_
   rintro e w8 ⟨rfl,hbel⟩
   have HS:=znq (HS.znr.later hbel)
   go_simp
   refine hK _ _ hbel ?_
   clear hK K hbel
   have HE:=znq (show downR (plusR s p (bitR q i))=zgc p q (i+1)∧True from ⟨by rw [HE.znr.1];rfl,trivial⟩)
   generalize downR (plusR s p (bitR q i))=s' at *
   refine zp rfl rfl (by rfl) (fun K hK=>?_)
   refine (HS.znr.get 0 rfl).opstore rfl rfl rfl zq rfl rfl (zX _) (fun w9 hb ho=>hK _ _ ?_)
   clear hK K
   have HS:=znq (HS.znr.change 0 hb ho (by omega) (by simp;omega))
   clear hb ho
   go_simp
   refine zo ?_
   go_wp2
   go_roundw
   case rel=>exact ⟨i+1,s',by omega,by go_num,HE,HS⟩
   case measure=>simp [intOf];omega
  ·obtain rfl:i=128:=by omega
   have HE:=znq (show s=dotR p q∧True from ⟨by rw [HE.znr.1];rfl,trivial⟩)
   go_wp2_with (first | (refine (HS.znr.get 0 rfl).wload rfl rfl rfl zq rfl ?_) | (refine (HS.znr.get 1 rfl).wstore rfl rfl rfl rfl zq rfl rfl (zX _) ?_))
   intro w5 hb5 ho5
   go_wp2
   refine hb5.result rfl rfl rfl zq rfl ⟨by rw [HE.znr.1],?_⟩
   rw [HBB.znr]
   exact zk HS.znr.bel ho5 (by omega)
end Go.Proofs.YtjaioajjfiaheaaGreatDoor
namespace Go.Hct
open Go.Ops
theorem or_pow:∀ k:Fin 4,∀ i:Fin 8,i.val < 2 ^ k.val→bits .or .i64 ((2 ^ k.val:Nat):Int) (i.val:Int)=((2 ^ k.val+i.val:Nat):Int):=by decide +kernel
theorem zmw:∀ k:Fin 4,∀ i:Fin 8,i.val < 2 ^ k.val→(2 ^ k.val+i.val).log2=k.val:=by decide +kernel
theorem zaq:∀ k:Fin 4,1≤2 ^ k.val∧2 ^ k.val≤8:=by decide +kernel
theorem zmx:∀ k:Fin 4,RowKit.wrap64 (2 ^ k.val)=((2 ^ k.val:Nat):Int):=by decide +kernel
theorem zku (h:List UInt8) {k i:Nat} (hk:k < 4) (hi:i < 2 ^ k) :
  jX h (2 ^ k+i)=(jX h (2 ^ k - 1+i)).set (2 ^ k+i) (plusR (atP (jX h (2 ^ k - 1+i)) i) (Qt h k) 1):=by
 obtain ⟨h1,h8⟩:=zaq ⟨k,hk⟩
 have hl:=zmw ⟨k,hk⟩ ⟨i,by have:=h8;simp at this;omega⟩ hi
 simp only at hl h1 h8
 have e:2 ^ k+i=(2 ^ k - 1+i)+1:=by omega
 rw [e,jX,← e,hl,show 2 ^ k+i - 2 ^ k=i by omega]
end Go.Hct
namespace Go.Proofs.YtjaioajjfiaheaaGreatDoor
open Go.RowKit Go.Mem Go.Ops Go.Cells Go.Oct Go.Trn Go.Adi Go.Hct
attribute [local irreducible] zE zN zO zM yJ
def Z8 (t:List (UInt64×UInt64)):List Value:=t.flatMap zQ
theorem zdb (t:List (UInt64×UInt64)):(Z8 t).length=2*t.length:=by
 induction t with
 | nil=>rfl
 | cons p t ih=>simp only [Z8,List.flatMap_cons,List.length_append,List.length_cons] at *;rw [ih];simp [zQ];omega
theorem zar:∀ (t:List (UInt64×UInt64)) (i:Nat),i < t.length→((Z8 t).drop (i*2)).take 2=zQ (atP t i)
 | p::t,0,_=>rfl
 | p::t,i+1,h=>by
  have:=zar t i (by simpa using h)
  rw [show (i+1)*2=i*2+2 by omega]
  simpa [Z8,zQ,atP] using this
theorem zdc:∀ (t:List (UInt64×UInt64)) (i:Nat) (x:UInt64×UInt64),i < t.length→(Z8 t).take (i*2)++zQ x++(Z8 t).drop (i*2+2)=Z8 (t.set i x)
 | p::t,0,x,_=>by simp [Z8,zQ]
 | p::t,i+1,x,h=>by
  have:=zdc t i x (by simpa using h)
  rw [show (i+1)*2=i*2+2 by omega]
  simp only [Z8,zQ,List.flatMap_cons,List.set_cons_succ] at *
  simp only [List.cons_append,List.nil_append,List.take_succ_cons,List.drop_succ_cons] at *
  rw [this]
theorem zkv:Tryz.prog.built 329 []=some (Z8 (List.replicate 16 (0,0))).toArray:=by kernel_rfl
theorem zkw (h:List UInt8) (w:World) (hh:h.length=16):Calls Tryz.prog 258 #[.agg (h.map B).toArray] w fun e w'=>∃ tb,e=.returned (.pointer (some ⟨tb,0,none⟩))∧w.heap.size≤tb∧Blk w' tb (Z8 (zcy h)) 329∧Below w.heap.size w w':=by
 have HH:=znq (show h.length=16∧True from ⟨hh,trivial⟩)
 have HHV:=znq (show (h.map B).length=16 by rw [List.length_map];exact hh)
 have HS:=znq (St.start w)
 clear hh
 obtain ⟨t0,ht0⟩:∃ t0,t0=jX h 0:=⟨_,rfl⟩
 have hbt:Tryz.prog.built 329 []=some (Z8 t0).toArray:=by rw [ht0];exact zkv
 have HT0:=znq (show t0=jX h 0∧True from ⟨ht0,trivial⟩)
 clear ht0
 go_enter Tryz.func258,Tryz.ntmps258
 go_wp2_with (refine zh 117 _ (h.map B) _ rfl rfl rfl rfl ?_)
 intro w1 hb hbel;have HS:=znq (HS.znr.push hb hbel);have hlt1:=hb.lt;clear hb hbel
 go_wp2_with (first | (refine xZ 329 _ _ _ rfl rfl rfl hbt ?_) | refine zh 329 _ (Z8 t0) _ rfl rfl rfl rfl ?_)
 intro w2 hb hbel;have HS:=znq (HS.znr.push hb hbel);have hlt2:=hb.lt;clear hb hbel hbt
 generalize hbb:w.heap.size=bb at *
 generalize w1.heap.size=b1 at *
 have HBB:=znq hbb
 clear hbb
 go_wp2_with fail
 refine (YL (some ⟨bb,0,none⟩) 16 16 h _ HH.znr.1 (by omega) (HS.znr.get 1 rfl).lies).mono ?_
 rintro e w3 ⟨rfl,hbel⟩
 have HS:=znq (HS.znr.later hbel)
 clear hbel
 go_wp2_with fail
 refine (dot_ok (xo h) (1,0) _).mono ?_
 rintro e w4 ⟨rfl,hbel⟩
 have HS:=znq (HS.znr.later hbel)
 have HLT:=znq (show b1 < w4.heap.size from (HS.znr.get 0 rfl).lt)
 clear hbel hlt2
 have HONE:=znq (show dotR (xo h) (1,0)=Qt h 0∧True from ⟨rfl,trivial⟩)
 generalize dotR (xo h) (1,0)=one0 at *
 go_wp2_with (refine ze 119 (zQ (0,0)) _ rfl rfl zT rfl ?_)
 intro w5 hb hbel;have HS:=znq (HS.znr.push hb hbel);have hlt5:=hb.lt;clear hb hbel
 generalize w4.heap.size=b4 at *
 go_wp2_with (refine (HS.znr.get 0 rfl).wstore rfl rfl rfl (cs:=zQ one0) rfl zq rfl rfl (zX _) ?_)
 intro w6 hb ho
 have HS:=znq (HS.znr.change 0 hb ho (by have:=HLT.znr;omega) (by have:=HLT.znr;simp;omega))
 have hbb1:bb≤b1:=by omega
 have hb14:=HLT.znr
 clear hb ho hlt5
 go_wp2
 go_loopw [13] (fun c wr=>∃ (k:Nat) (t:List (UInt64×UInt64)) (one:UInt64×UInt64),k≤4∧c=.int .i64 k∧Hid (t=jX h (2 ^ k - 1)∧one=Qt h k)∧Hid (St w bb wr [(b4,zQ one,119),(b1,Z8 t,329),(bb,h.map B,117)])) (fun c _=>4 - (intOf c).toNat)
 case atStart=>exact ⟨0,t0,one0,by omega,rfl,znq ⟨HT0.znr.1,HONE.znr.1⟩,HS⟩
 case round =>
  clear HS HT0 HONE
  obtain ⟨k,t,one,hk,rfl,HE,HS⟩:=hrel
  by_cases hlt:k < 4
  ·have hd:decide ((k:Int) < 4)=true:=by simp;omega
   obtain ⟨q,hq⟩:∃ q,q=2 ^ k:=⟨_,rfl⟩
   have HQ:=znq (show q=2 ^ k∧True from ⟨hq,trivial⟩)
   have hq8:q≤8:=by rw [hq];exact (zaq ⟨k,hlt⟩).2
   have hsh:RowKit.wrap64 (2 ^ k)=(q:Int):=by rw [hq];exact zmx ⟨k,hlt⟩
   clear hq
   go_wp2
   rw [hsh]
   go_loopw [18] (fun c wr=>∃ (i:Nat) (t:List (UInt64×UInt64)),i≤q∧c=.int .i64 i∧Hid (t=jX h (2 ^ k - 1+i)∧one=Qt h k)∧Hid (St w bb wr [(b4,zQ one,119),(b1,Z8 t,329),(bb,h.map B,117)])) (fun c _=>q - (intOf c).toNat)
   case atStart=>exact ⟨0,t,by omega,rfl,znq HE.znr,HS⟩
   case round =>
    clear HS HE
    obtain ⟨i,t,hi,rfl,HE,HS⟩:=hrel
    by_cases hiq:i < q
    ·have di:decide ((i:Int) < (q:Int))=true:=by simp;omega
     obtain ⟨m,hm⟩:∃ m,m=q+i:=⟨_,rfl⟩
     have hm16:m < 16:=by omega
     have hor:bits .or .i64 (q:Int) (i:Int)=(m:Int):=by
      have:=HQ.znr.1
      rw [hm,this]
      exact or_pow ⟨k,hlt⟩ ⟨i,by omega⟩ (by rw [← this];exact hiq)
     have HM:=znq (show m=q+i∧True from ⟨hm,trivial⟩)
     have HTL:=znq (show t.length=16∧True from ⟨by rw [HE.znr.1];exact ZS _ _,trivial⟩)
     clear hm
     go_wp2_with fail
     refine zn [0,1,2,3,4,5,6,7,8,9,10,11,13,14,12,15,16] (by kernel_rfl) (by kernel_rfl) ?_
     rintro w7 rfl
     have HS:=znq HS.znr.drew
     refine mqR ?_
     refine zt (Blk.rangeIn (HS.znr.get 1 rfl) (i*2) 2 _ (zar t i (by rw [HTL.znr.1];omega))) (HS.znr.get 1 rfl).lt zq rfl rfl rfl rfl rfl (fun K hK=>?_)
     go_simp;refine hK _ ?_;clear hK K
     refine zt (HS.znr.get 0 rfl).range (HS.znr.get 0 rfl).lt zq rfl rfl rfl rfl rfl (fun K hK=>?_)
     go_simp;refine hK _ ?_;clear hK K
     refine mqR ?_
     refine zi rfl rfl (by rfl) (fun K hK=>?_)
     go_simp
     refine (J8 (atP t i) one 1 _).mono ?_
     rintro e w8 ⟨rfl,hbel⟩
     have HS:=znq (HS.znr.later hbel)
     go_simp
     refine hK _ _ hbel ?_
     clear hK K hbel
     refine mqR ?_
     have HN:=znq (show t.set m (plusR (atP t i) one 1)=jX h (2 ^ k - 1+(i+1))∧one=Qt h k from ⟨by
      have h2:=HQ.znr.1
      have h1:=(zaq ⟨k,hlt⟩).1
      simp only at h1
      rw [show 2 ^ k - 1+(i+1)=2 ^ k+i by omega,zku h hlt (by rw [← h2];exact hiq),← HE.znr.1,← HE.znr.2,HM.znr.1,h2],HE.znr.2⟩)
     generalize plusR (atP t i) one 1=x at *
     refine zp rfl rfl (by rfl) (fun K hK=>?_)
     refine (HS.znr.get 1 rfl).opstoreAt (o:=m*2) (cs:=zQ x) rfl rfl rfl zq rfl (by rw [zdb,HTL.znr.1];omega) (zX _) (fun w9 hb ho=>hK _ _ ?_)
     clear hK K
     rw [show (zQ x).length=2 from rfl,zdc t m x (by rw [HTL.znr.1];exact hm16)] at hb
     have HS:=znq (HS.znr.change 1 hb ho (by omega) (by simp;omega))
     clear hb ho
     go_simp
     refine zo ?_
     go_wp2
     go_roundw
     case rel=>exact ⟨i+1,t.set m x,by omega,by go_num,HN,HS⟩
     case measure=>simp [intOf];omega
    ·obtain rfl:i=q:=by omega
     have di:decide ((i:Int) < (i:Int))=false:=by simp
     have HE:=znq (show t=jX h (2 ^ (k+1) - 1)∧one=Qt h k from ⟨by
      have h2:=HQ.znr.1
      have h1:=(zaq ⟨k,hlt⟩).1
      simp only at h1
      rw [HE.znr.1,h2]
      congr 1
      rw [Nat.pow_succ]
      omega,HE.znr.2⟩)
     have HWV:=znq (show (zQ one).length=2 from rfl)
     go_wp2_with (refine (HS.znr.get 0 rfl).wload rfl rfl rfl zq rfl ?_)
     refine (up_ok one _).mono ?_
     rintro e w7 ⟨rfl,hbel⟩
     have HS:=znq (HS.znr.later hbel)
     have HE:=znq (show t=jX h (2 ^ (k+1) - 1)∧upR one=Qt h (k+1) from ⟨HE.znr.1,by rw [HE.znr.2];rfl⟩)
     generalize upR one=one' at *
     clear hbel
     go_wp2_with (refine (HS.znr.get 0 rfl).wstore rfl rfl rfl (cs:=zQ one') rfl zq rfl rfl (zX _) ?_)
     intro w8 hb ho
     have HS:=znq (HS.znr.change 0 hb ho (by omega) (by simp;omega))
     clear hb ho
     go_wp2
     go_roundw
     case rel=>exact ⟨k+1,t,one',by omega,by go_num,HE,HS⟩
     case measure=>simp [intOf];omega
  ·obtain rfl:k=4:=by omega
   go_wp2
   go_ret
   rw [HBB.znr]
   refine ⟨_,rfl,hbb1,?_,HS.znr.bel⟩
   have:=HS.znr.get 1 rfl
   rw [HE.znr.1] at this
   exact this
end Go.Proofs.YtjaioajjfiaheaaGreatDoor
namespace Go.Hct
open Go.Ops Go.Trn
def upN (s:UInt64×UInt64):Nat→UInt64×UInt64
 | 0=>s
 | m+1=>upR (upN s m)
def midR (t:List (UInt64×UInt64)) (s:UInt64×UInt64) (x y:UInt8):Nat→UInt64×UInt64
 | 0=>s
 | 1=>zcz t s x
 | _=>zcz t (zcz t s x) y
def pick (x y:UInt8):Nat→UInt8
 | 0=>x
 | _=>y
end Go.Hct
namespace Go.Proofs.YtjaioajjfiaheaaGreatDoor
open Go.RowKit Go.Mem Go.Ops Go.Cells Go.Oct Go.Trn Go.Adi Go.Hct
attribute [local irreducible] zE zN zO zM yJ
theorem zmy (b:UInt8) (j:Nat):(pick (shr8 b 4) (and8 b 15) j).toNat < 16:=by
 have h:=lt8 b
 match j with
 | 0 =>
  have:=zfp b 4
  show (shr8 b 4).toNat < 16
  omega
 | j+1 =>
  show (and8 b 15).toNat < 16
  unfold and8
  rw [UInt8.toNat_and]
  exact Nat.lt_of_le_of_lt Nat.and_le_right (by decide)
theorem ze7 (x y:UInt8) {j:Nat} (h:j < 2):(#[B x,B y]:Array Value)[j]? = some (B (pick x y j)):=by
 match j,h with
 | 0,_=>rfl
 | 1,_=>rfl
theorem zmz (tb:Nat) (t:List (UInt64×UInt64)) (a:List UInt8) (w:World) (ht:t.length=16) (ha:a.length=16) (hb:Blk w tb (Z8 t) 329) :
  Calls Tryz.prog 259 #[.pointer (some ⟨tb,0,none⟩),.agg (a.map B).toArray] w fun e w'=>e=.returned (.agg ((dotT t a).map B).toArray)∧Below w.heap.size w w':=by
 have HT:=znq (show t.length=16∧True from ⟨ht,trivial⟩)
 have HA:=znq (show a.length=16∧True from ⟨ha,trivial⟩)
 have HTB:=znq hb
 have HTL:=znq hb.lt
 have HS:=znq (St.start w)
 clear ht ha hb
 go_enter Tryz.func259,Tryz.ntmps259
 go_wp2_with (refine zh 117 _ (a.map B) _ rfl rfl rfl rfl ?_)
 intro w1 hb hbel;have HS:=znq (HS.znr.push hb hbel);have hlt1:=hb.lt;clear hb hbel
 go_wp2_with (refine ze 117 ((zf 16).map B) _ rfl rfl zj rfl ?_)
 intro w2 hb hbel;have HS:=znq (HS.znr.push hb hbel);have hlt2:=hb.lt;clear hb hbel
 go_wp2_with (refine ze 119 (zQ (0,0)) _ rfl rfl zT rfl ?_)
 intro w3 hb hbel;have HS:=znq (HS.znr.push hb hbel);have hlt3:=hb.lt;clear hb hbel
 generalize hbb:w.heap.size=bb at *
 generalize w1.heap.size=b1 at *
 generalize w2.heap.size=b2 at *
 have HBB:=znq hbb
 clear hbb
 go_wp2
 go_loopw [13] (fun c wr=>∃ (i:Nat) (s:UInt64×UInt64),i≤16∧c=.int .i64 i∧Hid (s=JY t a i∧True)∧Hid (St w bb wr [(b2,zQ s,119),(b1,(zf 16).map B,117),(bb,a.map B,117)])) (fun c _=>16 - (intOf c).toNat)
 case atStart=>exact ⟨0,(0,0),by omega,rfl,znq ⟨rfl,trivial⟩,HS⟩
 case round =>
  clear HS
  obtain ⟨i,s,hi,rfl,HE,HS⟩:=hrel
  by_cases hlt:i < 16
  ·have hd:decide ((i:Int) < 16)=true:=by simp;omega
   obtain ⟨r,hr⟩:∃ r,r=15 - i:=⟨_,rfl⟩
   have hri:(15:Int) - (i:Int)=(r:Int):=by omega
   have hr16:r < 16:=by omega
   have hw:IntKind.i64.wrap ((15:Int) - (i:Int))=(r:Int):=by rw [IntWalk.i64_in _ (by omega)];exact hri
   have HR:=znq (show r=15 - i∧True from ⟨hr,trivial⟩)
   have hc:=(HS.znr.get 2 rfl).cell r _ (zU (at8_get (b:=a) (i:=r) (by rw [HA.znr.1];exact hr16)))
   clear hr
   obtain ⟨v,hv⟩:∃ v,v=at8 a r:=⟨_,rfl⟩
   have HV:=znq (show v=at8 a r∧True from ⟨hv,trivial⟩)
   rw [← hv] at hc
   clear hv
   go_wp2
   have HP:=znq (zmy v)
   have HNB:=znq (show zcz t (zcz t s (shr8 v 4)) (and8 v 15)=JY t a (i+1)∧True from ⟨by rw [HE.znr.1,HV.znr.1,HR.znr.1];rfl,trivial⟩)
   clear HE HV hc
   generalize shr8 v 4=x at *
   generalize and8 v 15=y at *
   go_loopw [25] (fun c wr=>∃ (j:Nat) (s':UInt64×UInt64),j≤2∧c=.int .i64 j∧Hid (s'=midR t s x y j∧True)∧Hid (St w bb wr [(b2,zQ s',119),(b1,(zf 16).map B,117),(bb,a.map B,117)])) (fun c _=>2 - (intOf c).toNat)
   case atStart=>exact ⟨0,s,by omega,rfl,znq ⟨rfl,trivial⟩,HS⟩
   case round =>
    clear HS
    obtain ⟨j,s',hj,rfl,HE,HS⟩:=hrel
    by_cases hlj:j < 2
    ·have dj:decide ((j:Int) < 2)=true:=by simp;omega
     have hix:=fun w':World=>qF (P:=Tryz.prog) w' 332 5 2 #[B x,B y] .i64 j (B (pick x y j)) Tryz.underlying332 (by kernel_rfl) zl (ze7 x y hlj) hlj
     have hp16:=HP.znr j
     have HMI:=znq (show midR t s x y (j+1)=zcz t s' (pick x y j)∧True from ⟨by
      rw [HE.znr.1]
      match j,hlj with
      | 0,_=>rfl
      | 1,_=>rfl,trivial⟩)
     generalize pick x y j=z at *
     go_wp2
     go_loopw [28] (fun c wr=>∃ (k:Nat) (s'':UInt64×UInt64),k≤4∧c=.int .i64 k∧Hid (s''=upN s' k∧True)∧Hid (St w bb wr [(b2,zQ s'',119),(b1,(zf 16).map B,117),(bb,a.map B,117)])) (fun c _=>4 - (intOf c).toNat)
     case atStart=>exact ⟨0,s',by omega,rfl,znq ⟨rfl,trivial⟩,HS⟩
     case round =>
      clear HS
      obtain ⟨k,s'',hk,rfl,HK,HS⟩:=hrel
      by_cases hlk:k < 4
      ·have dk:decide ((k:Int) < 4)=true:=by simp;omega
       go_wp2_with (refine (HS.znr.get 0 rfl).wload rfl rfl rfl zq rfl ?_)
       refine (up_ok s'' _).mono ?_
       rintro e w7 ⟨rfl,hbel⟩
       have HS:=znq (HS.znr.later hbel)
       have HK:=znq (show upR s''=upN s' (k+1)∧True from ⟨by rw [HK.znr.1];rfl,trivial⟩)
       generalize upR s''=q at *
       clear hbel
       go_wp2_with (refine (HS.znr.get 0 rfl).wstore rfl rfl rfl (cs:=zQ q) rfl zq rfl rfl (zX _) ?_)
       intro w8 hb ho
       have HS:=znq (HS.znr.change 0 hb ho (by omega) (by simp;omega))
       clear hb ho
       go_wp2
       go_roundw
       case rel=>exact ⟨k+1,q,by omega,by go_num,HK,HS⟩
       case measure=>simp [intOf];omega
      ·obtain rfl:k=4:=by omega
       have HN:=znq (show plusR s'' (atP t z.toNat) 1=midR t s x y (j+1)∧True from ⟨by rw [HMI.znr.1,HK.znr.1];rfl,trivial⟩)
       have HTB':=znq (HTB.znr.below HS.znr.bel HTL.znr)
       go_wp2_with fail
       refine zn [0,1,2,3,4,5,6,7,8] (by kernel_rfl) (by kernel_rfl) ?_
       rintro w7 rfl
       have HS:=znq HS.znr.drew
       have HTB':=znq HTB'.znr.drew
       refine zt (HS.znr.get 0 rfl).range (HS.znr.get 0 rfl).lt zq rfl rfl rfl rfl rfl (fun K hK=>?_)
       go_simp;refine hK _ ?_;clear hK K
       refine mqR ?_
       refine zt (Blk.rangeIn HTB'.znr (z.toNat*2) 2 _ (zar t z.toNat (by rw [HT.znr.1];exact hp16))) HTB'.znr.lt zq rfl rfl rfl rfl rfl (fun K hK=>?_)
       go_simp;refine hK _ ?_;clear hK K
       refine zi rfl rfl (by rfl) (fun K hK=>?_)
       go_simp
       refine (J8 s'' (atP t z.toNat) 1 _).mono ?_
       rintro e w8 ⟨rfl,hbel⟩
       have HS:=znq (HS.znr.later hbel)
       go_simp
       refine hK _ _ hbel ?_
       clear hK K hbel
       generalize plusR s'' (atP t z.toNat) 1=q at *
       refine zp rfl rfl (by rfl) (fun K hK=>?_)
       refine (HS.znr.get 0 rfl).opstore rfl rfl rfl zq rfl rfl (zX _) (fun w9 hb ho=>hK _ _ ?_)
       clear hK K
       have HS:=znq (HS.znr.change 0 hb ho (by omega) (by simp;omega))
       clear hb ho
       go_simp
       refine zo ?_
       go_wp2
       go_roundw
       case rel=>exact ⟨j+1,q,by omega,by go_num,HN,HS⟩
       case measure=>simp [intOf];omega
    ·obtain rfl:j=2:=by omega
     have HE:=znq (show s'=JY t a (i+1)∧True from ⟨by rw [HE.znr.1,← HNB.znr.1];rfl,trivial⟩)
     go_wp2
     go_roundw
     case rel=>exact ⟨i+1,s',by omega,by go_num,HE,HS⟩
     case measure=>simp [intOf];omega
  ·obtain rfl:i=16:=by omega
   have HE:=znq (show z7 s=dotT t a∧True from ⟨by rw [HE.znr.1];rfl,trivial⟩)
   have HWL:=znq (zZ s)
   go_wp2_with (refine (HS.znr.get 0 rfl).wload rfl rfl rfl zq rfl ?_)
   refine (k5 s.1 s.2 _).mono ?_
   rintro e w7 ⟨rfl,hbel⟩
   have HS:=znq (HS.znr.later hbel)
   clear hbel
   obtain ⟨q,hq⟩:∃ q,q=dotT t a:=⟨_,rfl⟩
   have HBV:=znq (show q.length=16 by rw [hq];exact YD _ _)
   rw [show zz s.1++zz s.2=q by rw [hq];exact HE.znr.1]
   have HQ:=znq (show q=dotT t a∧True from ⟨hq,trivial⟩)
   clear hq
   go_wp2_with (refine (HS.znr.get 1 rfl).wstore rfl rfl rfl (cs:=q.map B) rfl zc (by simp [zd]) (by rw [List.length_map];exact HBV.znr) (zg _) ?_)
   intro w8 hb ho
   go_wp2
   refine hb.result rfl rfl rfl zc (by rw [List.length_map];exact HBV.znr) ⟨by rw [HQ.znr.1],?_⟩
   rw [HBB.znr]
   exact zk HS.znr.bel ho (by omega)
end Go.Proofs.YtjaioajjfiaheaaGreatDoor
namespace Go.Proofs.YtjaioajjfiaheaaGreatDoor
open Go.RowKit Go.Mem Go.Ops Go.Cells Go.Oct Go.Trn Go.Adi Go.Hct
attribute [local irreducible] zE zN zO zM yJ
def stV (tb:Nat) (v:List UInt8):List Value:=.pointer (some ⟨tb,0,none⟩)::v.map B
theorem Vh {tb:Nat} {v:List UInt8} (h:v.length=16):(stV tb v).length=17:=by simp [stV,h]
theorem zm8 {tb:Nat} {v:List UInt8} (h:v.length=16):((stV tb v).drop 1).take 16=v.map B:=by
 show (v.map B).take 16=_
 rw [List.take_of_length_le (by rw [List.length_map,h];omega)]
theorem zm9 {tb:Nat} {v u:List UInt8} (h:v.length=16) (hu:u.length=16):(stV tb v).take 1++u.map B++(stV tb v).drop (1+(u.map B).length)=stV tb u:=by
 rw [List.length_map,hu,List.drop_eq_nil_of_le (by rw [Vh h];omega),List.append_nil]
 rfl
theorem zk3 {w:World} {sb tb:Nat} {v:List UInt8} (hb:Blk w sb (stV tb v) 326):zr w (some ⟨sb,1,none⟩) (v.map B):=by
 have:=hb.lies.drop 1
 simpa [stV,add_eq] using this
theorem zfi (tb:Nat):Tryz.prog.built 326 [(0,.pointer (some ⟨tb,0,none⟩))]=some (stV tb (zf 16)).toArray:=by kernel_rfl
theorem zna (h:List UInt8) (w:World) (hh:h.length=16):Calls Tryz.prog 254 #[.agg (h.map B).toArray] w fun e w'=>∃ sb tb,e=.returned (.pointer (some ⟨sb,0,none⟩))∧w.heap.size≤tb∧tb < sb∧Blk w' sb (stV tb (zf 16)) 326∧Blk w' tb (Z8 (zcy h)) 329∧Below w.heap.size w w':=by
 have HH:=znq (show h.length=16∧True from ⟨hh,trivial⟩)
 have HHV:=znq (show (h.map B).length=16 by rw [List.length_map];exact hh)
 have HS:=znq (St.start w)
 clear hh
 go_enter Tryz.func254,Tryz.ntmps254
 go_wp2_with (refine zh 117 _ (h.map B) _ rfl rfl rfl rfl ?_)
 intro w1 hb hbel;have HS:=znq (HS.znr.push hb hbel);have hlt1:=hb.lt;clear hb hbel
 generalize hbb:w.heap.size=bb at *
 have HBB:=znq hbb
 clear hbb
 go_wp2_with (refine (HS.znr.get 0 rfl).wload rfl rfl rfl zc HHV.znr ?_)
 refine (zkw h _ HH.znr.1).mono ?_
 rintro e w2 ⟨tb,rfl,htb,hb,hbel⟩
 have HS:=znq (HS.znr.push hb hbel)
 have hlt2:=hb.lt
 clear hb hbel
 have hbu:=zfi tb
 go_wp2_with (first | (refine xZ 326 _ _ _ rfl rfl rfl hbu ?_) | refine zh 326 _ (stV tb (zf 16)) _ rfl rfl rfl rfl ?_)
 intro w3 hb hbel
 have HS:=znq (HS.znr.push hb hbel)
 have HLT:=znq hlt2
 clear hb hbel hbu
 go_wp2
 go_ret
 rw [HBB.znr]
 exact ⟨_,tb,rfl,by omega,HLT.znr,HS.znr.get 0 rfl,HS.znr.get 1 rfl,HS.znr.bel⟩
theorem zh7 (sb tb:Nat) (v:List UInt8) (w:World) (hv:v.length=16) (hb:Blk w sb (stV tb v) 326) :
  Calls Tryz.prog 256 #[.pointer (some ⟨sb,0,none⟩)] w fun e w'=>e=.returned (.agg (v.map B).toArray)∧Below w.heap.size w w':=by
 have HV:=znq (show v.length=16∧True from ⟨hv,trivial⟩)
 have HVV:=znq (show (v.map B).length=16 by rw [List.length_map];exact hv)
 have HSB:=znq hb
 have HLT:=znq hb.lt
 have HS:=znq (St.start w)
 clear hv hb
 go_enter Tryz.func256,Tryz.ntmps256
 go_wp2_with (refine ze 117 ((zf 16).map B) _ rfl rfl zj rfl ?_)
 intro w1 hb hbel;have HS:=znq (HS.znr.push hb hbel);have hlt1:=hb.lt;clear hb hbel
 generalize hbb:w.heap.size=bb at *
 have HBB:=znq hbb
 have HSB:=znq (HSB.znr.below HS.znr.bel HLT.znr)
 clear hbb
 go_wp2_with (first | (refine HSB.znr.wloadAt (off:=1) rfl rfl rfl zc (zm8 HV.znr.1) HVV.znr ?_) | (refine (HS.znr.get 0 rfl).wstore rfl rfl rfl (cs:=v.map B) rfl zc (by simp [zd]) HVV.znr (zg _) ?_))
 intro w2 hb ho
 have HE:=znq (zk HS.znr.bel ho (by omega))
 clear ho
 go_wp2
 refine hb.result rfl rfl rfl zc HVV.znr ⟨rfl,?_⟩
 rw [HBB.znr]
 exact HE.znr
abbrev za0 (sb:Nat) (sl:Value) (us:Nat→Value):Act:={ tmps:=#[.pointer (some ⟨sb,0,none⟩),sl,us 2,us 3,us 4,us 5,us 6,us 7,us 8,us 9,us 10,us 11,us 12,us 13,us 14,us 15,us 16,us 17,us 18,us 19,us 20,us 21,us 22,us 23,us 24,us 25,us 26,us 27],defers:=[] }
def VwAt (sb tb:Nat) (t:List (UInt64×UInt64)) (fin:List UInt8) (w:World) (x:Act) (wr:World):Prop :=
 ∃ (us:Nat→Value) (ao:Option Addr) (n c:Nat) (bs v:List UInt8),x=za0 sb (.slice ao n c) us∧n≤c∧n≤2000000∧n % 16=0∧Hid (bs.length=n∧v.length=16)∧Hid (∀ w',zI sb wr w'→zr w' ao (bs.map B)) ∧
  Hid (jq t v bs=fin∧True)∧Hid (Blk wr sb (stV tb v) 326)∧Hid (zI sb w wr)
theorem VwAt.intro {sb tb:Nat} {t:List (UInt64×UInt64)} {fin:List UInt8} {w:World} {x:Act} {wr:World} (ao:Option Addr) (n c:Nat) (bs v:List UInt8) (hx:x=za0 sb (.slice ao n c) (fun i=>x.tmps.getD i undef)) (h1:n≤c) (h2:n≤2000000) (h3:n % 16=0) (h4:bs.length=n∧v.length=16)
  (h5:∀ w',zI sb wr w'→zr w' ao (bs.map B)) (h8:jq t v bs=fin∧True) (h9:Blk wr sb (stV tb v) 326) (h10:zI sb w wr):VwAt sb tb t fin w x wr :=
 ⟨_,ao,n,c,bs,v,hx,h1,h2,h3,h4,h5,h8,h9,h10⟩
theorem zh8 (sb tb:Nat) (t:List (UInt64×UInt64)) (v:List UInt8) (ao:Option Addr) (n cap:Nat) (b:List UInt8) (w:World) (hb:Blk w sb (stV tb v) 326) (ht:Blk w tb (Z8 t) 329) (ht16:t.length=16) (hne:tb < sb) (hv:v.length=16) (hn:b.length=n) (hn6:n≤1000000) (hl:zr w ao (b.map B)) :
  Calls Tryz.prog 255 #[.pointer (some ⟨sb,0,none⟩),.slice ao n cap] w fun e w'=>(∃ x,e=.returned x)∧Blk w' sb (stV tb (jq t v (kF b 16))) 326∧zI sb w w':=by
 have HSB:=znq hb
 have HTB:=znq ht
 have HO:=znq (zI.refl sb w)
 have HT:=znq ht16
 have HV:=znq hv
 have HN:=znq hn
 have HL:=znq hl
 have HSW:=znq hb.lt
 obtain ⟨d,hd⟩:∃ d,d=kF b 16:=⟨_,rfl⟩
 obtain ⟨dn,hdn⟩:∃ x,x=d.length:=⟨_,rfl⟩
 have HD:=znq (show kF b 16=d∧d.length=dn from ⟨hd.symm,hdn.symm⟩)
 have HDN:=znq (show n+j8 n 16=dn from by rw [hdn,hd,kF,List.length_append,List.length_replicate,hn])
 have hd16:dn % 16=0:=by rw [hdn,hd];exact (ky b).1
 have hd6:dn≤2000000:=by rw [hdn,hd];have:=(ky b).2;omega
 obtain ⟨fin,hfin⟩:∃ f,f=jq t v (kF b 16):=⟨_,rfl⟩
 have HF:=znq (show jq t v d=fin∧True from ⟨by rw [hfin,hd],trivial⟩)
 rw [← hfin]
 clear hb ht ht16 hv hn hl hfin hd hdn
 go_enter Tryz.func255,Tryz.ntmps255
 go_wp2_with fail
 refine yd 0 (VwAt sb tb t fin w) (fun x _=>X9 (x.tmps.getD 1 undef)) rfl ?_ ?_
 ·simp only [q9]
  go_wp2_with fail
  refine (Zh ao n cap 16 b _ HN.znr (by omega) (by omega) (by omega) HL.znr).mono ?_
  rintro e w1 ⟨v1,rfl,hown,hbel⟩
  rw [HDN.znr] at hown
  obtain ⟨a1,c1,rfl,hc1,_,_⟩:=zw hown
  rw [HD.znr.1] at hown
  have HOWN:=znq hown
  have HSB:=znq (HSB.znr.below hbel HSW.znr)
  have HO:=znq (HO.znr.trans (zI.of_below hbel))
  clear hown hbel
  simp only [id]
  go_wp2
  exact VwAt.intro a1 dn c1 d v rfl hc1 hd6 hd16 ⟨HD.znr.2,HV.znr⟩ (fun w' ho=>zdo HOWN.znr HSW.znr w' ho) HF.znr HSB.znr HO.znr
 ·clear HSB HO HV HN HL HF HDN HD hd16 hd6 hn6
  rintro x wr ⟨us,ao,n,c,bs,v,rfl,hc,hn6,h16,HN,HL,HF,HSB,HO⟩
  have HTB':=znq (HTB.znr.onlyB HO.znr (by omega))
  simp only [za0]
  by_cases h0:n=0
  ·subst h0
   have HE:=znq (show fin=v∧True from ⟨by rw [← HF.znr.1,List.eq_nil_of_length_eq_zero HN.znr.1,Wx],trivial⟩)
   go_wp2
   try rw [Exit.jump_ret]
   refine bodyPost_ret (results_none rfl _ _ _) rfl ?_
   refine ⟨⟨_,rfl⟩,?_,HO.znr⟩
   rw [HE.znr.1]
   exact HSB.znr
  ·have hge:16≤n:=by omega
   have hne0:((n:Int)==0)=false:=by simp;omega
   have hne1:¬ ((n:Int)=0):=by omega
   have HST:=znq (show jq t (dotT t (block (xorL v bs))) (bs.drop 16)=fin∧True from ⟨(JZ (by rw [HN.znr.1];exact h0)).symm.trans HF.znr.1,trivial⟩)
   have HBX:=znq (show (block (xorL v bs)).length=16 from zA _)
   have hmin:min 16 n=16:=by omega
   have hc0:=fun (x:zG wr.drew)=>(HSB.znr.drew.below x.later HSB.znr.drew.lt).cell 0 (.pointer (some ⟨tb,0,none⟩)) rfl
   clear h0
   go_wp2_with fail
   refine zn [0,1,2,3,4,5,6,7,8,9,10,11,12,13,14,15] (by kernel_rfl) (by kernel_rfl) ?_
   rintro w1 rfl
   refine mqR ?_
   clear hc0
   have HSB:=znq HSB.znr.drew
   have HO:=znq HO.znr.drew
   have HTB':=znq HTB'.znr.drew
   refine zi rfl rfl (by rfl) (fun K hK=>?_)
   go_simp
   refine (j1 _ _ 16 n 16 c v bs _ HN.znr.2 HN.znr.1 (by omega) (by omega) (zk3 HSB.znr) (HL.znr _ (zI.refl sb _).drew)).mono ?_
   rintro e w5 ⟨v5,rfl,hown5,hbel5⟩
   rw [hmin] at hown5
   obtain ⟨ao5,cap5,rfl,_,_,hl5⟩:=zw hown5
   have HL5:=znq hl5
   have HSB:=znq (HSB.znr.below hbel5 HSB.znr.lt)
   have HTB':=znq (HTB'.znr.below hbel5 HTB'.znr.lt)
   have HO':=znq (zI.of_below (b:=sb) hbel5)
   clear hown5 hl5
   simp only [id]
   go_simp
   refine hK _ _ hbel5 ?_
   clear hK K hbel5
   refine zi rfl rfl (by rfl) (fun K hK=>?_)
   go_simp
   refine (yQ ao5 16 cap5 (xorL v bs) _ (by rw [xorL_length,HN.znr.1,HN.znr.2];omega) HL5.znr).mono ?_
   rintro e w6 ⟨rfl,hbel⟩
   have HSB:=znq (HSB.znr.below hbel HSB.znr.lt)
   have HTB':=znq (HTB'.znr.below hbel HTB'.znr.lt)
   have HO':=znq (HO'.znr.trans (zI.of_below hbel))
   go_simp
   refine hK _ _ hbel ?_
   clear hK K hbel
   generalize block (xorL v bs)=xb at *
   refine zi rfl rfl (by rfl) (fun K hK=>?_)
   go_simp
   refine (zmz tb t xb _ HT.znr HBX.znr HTB'.znr).mono ?_
   rintro e w7 ⟨rfl,hbel⟩
   have HSB:=znq (HSB.znr.below hbel HSB.znr.lt)
   have HO':=znq (HO'.znr.trans (zI.of_below hbel))
   go_simp
   refine hK _ _ hbel ?_
   clear hK K hbel
   have HDL:=znq (show (dotT t xb).length=16 from YD _ _)
   generalize dotT t xb=u at *
   refine mqR ?_
   refine zp rfl rfl (by rfl) (fun K hK=>?_)
   refine HSB.znr.opstoreAt (o:=1) (cs:=u.map B) rfl rfl rfl zc (by rw [List.length_map];exact HDL.znr) (by rw [Vh HN.znr.2];omega) (zg _) (fun w8 hb ho=>hK _ _ ?_)
   clear hK K
   rw [zm9 HN.znr.2 HDL.znr] at hb
   have HSB:=znq hb
   have HO':=znq (HO'.znr.trans (zI.of_only ho))
   have HO:=znq (HO.znr.trans HO'.znr)
   have HL:=znq (show ∀ w',zI sb w8 w'→zr w' ao (bs.map B) from fun w' ho=>HL.znr w' ((zI.refl sb _).drew.trans (HO'.znr.trans ho)))
   clear hb ho
   go_simp
   refine zo ?_
   have hsl:=fun (w':World)=>yv (P:=Tryz.prog) w' 22 5 1 Tryz.underlying22 zl ao n c 16 16 rfl hge
   go_wp2
   refine wp_goto ⟨rfl,VwAt.intro (yy ao c 16) (n - 16) (c - 16) (bs.drop 16) u rfl (by omega) (by omega) (by omega) ⟨by rw [List.length_drop,HN.znr.1],HDL.znr⟩ (fun w' ho=>zr.dropA (HL.znr w' ho) (by rw [HN.znr.1];exact hc) 16) HST.znr HSB.znr HO.znr,?_⟩
   simp [X9];omega
end Go.Proofs.YtjaioajjfiaheaaGreatDoor

/-
  Texts of this claim, one behind the other.
-/
import Derived.Test.YtbpghohkhngdfaaGreatDoorQ1
import Derived.Test.YtbpghohkhngdfaaGreatDoorQ9
import Derived.Test.YtbpghohkhngdfaaGreatDoorQ17
import Derived.Test.YtbpghohkhngdfaaGreatDoorQ16
import Derived.Test.YtbpghohkhngdfaaGreatDoorQ8
import Derived.Test.YtbpghohkhngdfaaGreatDoorQ6
import Derived.Handy
import Derived.Lib.Hide
set_option linter.unusedVariables false
set_option linter.unusedSimpArgs false
set_option maxHeartbeats 16000000
set_option maxRecDepth 100000
namespace Go.Wid
open Go.Ops Go.Oct Go.Aes Go.Ezk Go.Aez Go.Adi Go.Hct
inductive ku where
 | adi (k:kV)
 | hct (k:ka)
 | aez (k:zv)
def ku.alg:ku→Nat
 | .adi _=>1
 | .hct _=>2
 | .aez _=>3
def ku.least:ku→Nat
 | .adi _=>16
 | .hct _=>16
 | .aez _=>1
def ku.Fit:ku→Prop
 | .adi k=>2≤k.ks.length
 | .hct k=>2≤k.ks.length
 | .aez _=>True
def xM (k:ku) (tweak m:List UInt8) (back:Bool):List UInt8 :=
 match k with
 | .adi k=>if back then XL k tweak m else XK k tweak m
 | .hct k=>if back then zan k tweak m else zam k tweak m
 | .aez k=>rowA k [tweak] m back
theorem q7 {k:ku} (tweak:List UInt8) {m:List UInt8} (back:Bool) (h:k.least≤m.length):(xM k tweak m back).length=m.length:=by
 cases k with
 | adi k=>cases back;exact zcv _ _ h;exact zcw _ _ h
 | hct k=>cases back;exact zc0 _ _ _ h;exact zc1 _ _ _ h
 | aez k=>exact Kg _ _ _ _
theorem XM {k:ku} (hk:k.Fit) (tweak:List UInt8) {m:List UInt8} (back:Bool) (h:k.least≤m.length):xM k tweak (xM k tweak m back) (!back)=m:=by
 cases k with
 | adi k=>cases back;exact zhm _ hk _ h;exact zhn _ hk _ h
 | hct k=>cases back;exact zho _ hk _ h;exact zhp _ hk _ h
 | aez k=>exact zg8 _ _ _ _
theorem zhq {k:ku} (hk:k.Fit) (tweak:List UInt8) {m n:List UInt8} (back:Bool) (h:k.least≤m.length) (h2:k.least≤n.length):(xM k tweak m back=xM k tweak n back)↔m=n :=
 ⟨fun e=>by rw [← XM hk tweak back h,e,XM hk tweak back h2],fun e=>by rw [e]⟩
def wrongG (alg:Int) (n:Nat):Nat :=
 if alg=1 then (if n=32 then 0 else 2)
 else if alg=2 then (if n=16∨n=24∨n=32 then 0 else 2)
 else if alg=3 then (if 0 < n∧n≤128 then 0 else 2)
 else 8
def jy (alg:Int) (key:List UInt8):ku :=
 if alg=1 then .adi (zkf key) else if alg=2 then .hct (J0 (key.length / 4) (key.length==32) key) else .aez (ko key)
theorem we (alg:Int) (key:List UInt8):(jy alg key).Fit:=by
 unfold jy
 split
 ·exact zkg key
 ·split
  ·show 2≤(expand _ _ _).length
   rw [wJ]
   omega
  ·trivial
def wg (alg:Int):Nat:=if alg=3 then 1 else 16
theorem jz {alg:Int} {key:List UInt8} (h:wrongG alg key.length=0):(jy alg key).least=wg alg:=by
 unfold jy wg
 by_cases h1:alg=1
 ·subst h1;rfl
 ·by_cases h2:alg=2
  ·subst h2;rfl
  ·by_cases h3:alg=3
   ·subst h3;rfl
   ·unfold wrongG at h
    rw [if_neg h1,if_neg h2,if_neg h3] at h
    omega
end Go.Wid
namespace Go.Mem
open Go.RowKit Go.Cells Go.Ops
theorem _root_.Go.Cells.Blk.cellAny {w:World} {b:Nat} {vs:List Value} {ty:TypeId} (h:Blk w b vs ty) (i:Nat):w.cell? ⟨b,i,none⟩=vs[i]?:=by
 unfold Blk at h
 simp [World.cell?,h]
theorem _root_.Go.Cells.Only.cellOther {b:Nat} {w w':World} (h:Only b w w') {c:Nat} (i:Nat) (hne:c≠b):w'.cell? ⟨c,i,none⟩=w.cell? ⟨c,i,none⟩:=by
 simp [World.cell?,h.block c hne]
theorem zr.only {w w':World} {ao:Option Addr} {xs vs:List Value} {b:Nat} {ty:TypeId} (h:zr w ao xs) (hb:Blk w b vs ty) (hne:∀ x∈xs,x∉vs) (ho:Only b w w'):zr w' ao xs:=by
 intro j u hu
 obtain ⟨c,off,e,hc⟩:=h j u hu
 refine ⟨c,off,e,?_⟩
 by_cases he:c=b
 ·subst he
  exfalso
  refine hne u (List.mem_of_getElem? hu) ?_
  have h1:w.cell? ⟨c,off+j,none⟩=vs[off+j]?:=hb.cellAny _
  rw [hc] at h1
  exact List.mem_of_getElem? h1.symm
 ·rw [← hc]
  exact ho.cellOther _ he
theorem Str.In.only {w w':World} {s:Str} {vs:List Value} {b:Nat} {ty:TypeId} (h:s.In w) (hb:Blk w b vs ty) (hne:∀ x:UInt8,B x∉vs) (ho:Only b w w'):s.In w' :=
 ⟨h.le,h.lies.only hb (by intro x hx;obtain ⟨y,_,rfl⟩:=List.mem_map.1 hx;exact hne y) ho⟩
theorem xY.only {w w':World} {ao:Option Addr} {ss:List Str} {vs:List Value} {b:Nat} {ty:TypeId} (h:xY w ao ss) (hb:Blk w b vs ty) (h1:∀ s∈ss,s.val∉vs) (hne:∀ x:UInt8,B x∉vs) (ho:Only b w w'):xY w' ao ss :=
 ⟨h.lies.only hb (by intro x hx;obtain ⟨y,hy,rfl⟩:=List.mem_map.1 hx;exact h1 y hy) ho,fun s hs=>(h.each s hs).only hb hne ho⟩
end Go.Mem
namespace Go.Cells
open Go.RowKit
theorem opmake {P:Program} {w:World} {op:Oper} {a:Act} {K:Act→World→Prop} {Q:Exit→Act→World→Prop} (t e:TypeId) (z:Value) (by':Nat) (n:Nat) {l c:Operand} {kl kc:IntKind} {L C:Int}
  (hop:op.op=Op.makeSlice t l c) (hl:a.eval l=.int kl L) (hc:a.eval c=.int kc C) (h1:P.underlying t=some (.slice e)) (hi:(P.info? e).map (fun i=>(i.zero,i.size,i.bytes))=some (some z,1,by')) (hz:z.cells=#[z])
  (hL:L=(n:Int)) (hC:C=(n:Int)) (b2:by'*n≤281474976710656) (b3:n≤maxLen)
  (k:∀ w',Blk w' w.heap.size (List.replicate n z) e→Below w.heap.size w w'→K (a.put op.dst (.slice (some ⟨w.heap.size,0,none⟩) n n)) w'):op.wp P a w K Q:=by
 obtain ⟨i0,hi0,hz0,hz1,hz2⟩:=info_parts hi
 obtain ⟨w',hrun,hown,hgrow⟩:=run_make_full (P:=P) w w.heap.size t e i0 z 1 h1 hi0 hz0 hz1 kl kc n (by rw [hz2];exact b2) b3 (Nat.le_refl _)
 subst hL
 subst hC
 have hb:=(KX hown).1
 have e1:(madeCells z.cells (n*1)).toList=List.replicate n z:=by
  rw [hz,Nat.mul_one,toList_madeCells_one]
 rw [e1] at hb
 unfold Oper.wp
 simp [execOp,hop,hl,hc,hrun,Result.andThen]
 exact k w' hb ((Below.refl w.heap.size w).grown hgrow (Nat.le_refl _) (fun k h=>by cases h))
end Go.Cells
namespace Go.Proofs.YtbpghohkhngdfaaGreatDoor
open Go.RowKit Go.Mem Go.Ops Go.Cells Go.Oct Go.Gf Go.Trn Go.Aes Go.Ring Go.Ezk Go.Ezh Go.Ezt Go.Aez Go.Blake Go.CutP Go.Fl
attribute [local irreducible] zE zN zO zM yu
structure Bnd (w:World) (bc br cp kp q p:Nat) (k:zv) (a:Addr) (ss:List Str):Prop where
 c:Blk w bc [.pointer (some ⟨cp,0,none⟩)] 26
 r:Blk w br [.slice (some a) 2 2] 44
 ciph:zab w cp kp q p k
 len:ss.length=2
 strs:xY w (some a) ss
 lens:∀ s∈ss,s.bs.length≤10000
theorem Bnd.later {w w':World} {bc br cp kp q p:Nat} {k:zv} {a:Addr} {ss:List Str} (h:Bnd w bc br cp kp q p k a ss) (hb:Below w.heap.size w w'):Bnd w' bc br cp kp q p k a ss :=
 ⟨h.c.below hb h.c.lt,h.r.below hb h.r.lt,h.ciph.later hb,h.len,h.strs.below hb,h.lens⟩
abbrev Wz (us:Nat→Value):Act:={ tmps:=#[us 0,us 1,us 2,us 3,us 4,us 5,us 6,us 7,us 8,us 9,us 10,us 11,us 12,us 13,us 14,us 15,us 16,us 17,us 18,us 19,us 20,us 21,us 22,us 23,us 24,us 25,us 26,us 27,us 28,us 29,us 30,us 31,us 32,us 33,us 34,us 35,us 36,us 37,us 38,us 39,us 40,us 41,us 42,us 43,us 44,us 45,us 46,us 47,us 48,us 49,us 50,us 51,us 52,us 53,us 54,us 55,us 56,us 57,us 58,us 59,us 60,us 61,us 62,us 63,us 64,us 65,us 66,us 67],defers:=[] }
def zkh (N:Prop) (w:World) (x:Act) (wr:World):Prop:=∃ us:Nat→Value,x=Wz us∧Hid N∧Hid (Below w.heap.size w wr)
theorem zkh.intro {N:Prop} {w:World} {x:Act} {wr:World} (hx:x=Wz (fun i=>x.tmps.getD i undef)) (h1:N) (h2:Below w.heap.size w wr):zkh N w x wr:=⟨_,hx,h1,h2⟩
end Go.Proofs.YtbpghohkhngdfaaGreatDoor
namespace Go
open Go.RowKit
section
variable {P:Program} {ops:Array Oper} {Q:Exit→Act→World→Prop}
def zH.make (i:Nat) (d:Tmp) (e:TypeId) (vs:List Value):zH:=⟨i,d,.cells vs.toArray e,fun n=>.slice (some ⟨n,0,none⟩) vs.length vs.length⟩
@[go_sem,simp] theorem make_dst (i:Nat) (d:Tmp) (t:TypeId) (vs:List Value):(zH.make i d t vs).dst=d:=rfl
@[go_sem,simp] theorem make_val (i:Nat) (d:Tmp) (t:TypeId) (vs:List Value) (n:Nat):(zH.make i d t vs).val n=.slice (some ⟨n,0,none⟩) vs.length vs.length:=rfl
@[go_sem,simp] theorem make_obj (i:Nat) (d:Tmp) (t:TypeId) (vs:List Value):(zH.make i d t vs).obj=.cells vs.toArray t:=rfl
theorem WA {a:Act} {w:World} (i:Nat) (d:Tmp) (e t:TypeId) (vs:List Value) (o:Oper) {l c:Operand} (ho:ops[i]? = some o) (hop:o.op=.makeSlice t l c) (hd:o.dst=some d) (hg:o.guard=none) (hsz:d < a.tmps.size)
  (hrun:∀ w',(Instr.makeSlice t (a.eval l) (a.eval c)).run P w'=.ok (.slice (some ⟨w'.heap.size,0,none⟩) vs.length vs.length) (w'.alloc (.cells vs.toArray e))):(zH.make i d e vs).Fits P ops a w:=by
 refine ⟨hsz,o,ho,hd,hg,by simp [hop],fun w' _=>?_⟩
 simp [execOp,hop,hrun,zH.make]
end
end Go
namespace Go.Proofs.YtbpghohkhngdfaaGreatDoor
open Go.RowKit Go.Mem Go.Ops Go.Cells Go.Oct Go.Gf Go.Trn Go.Aes Go.Ring Go.Ezk Go.Ezh Go.Ezt Go.Ezc Go.Aez Go.Blake Go.CutP Go.Fl Go.Wid
attribute [local irreducible] zE zN zO zM yu
theorem Kt (w:World):(Instr.makeSlice 22 (.int .i64 32) (.int .i64 32)).run Tryz.prog w=.ok (.slice (some ⟨w.heap.size,0,none⟩) 32 32) (w.alloc (.cells ((zf 32).map B).toArray 5)):=by kernel_rfl
theorem wF (w:World) (hg:Globals w):Calls Tryz.prog 17 #[] w fun e w'=>∃ q p,e=.returned (.pointer (some ⟨q,0,none⟩))∧Tab w' q p∧Below w.heap.size w w':=by
 have HG:=znq hg
 clear hg
 go_enter Tryz.func17,Tryz.ntmps17
 go_wp2_with fail
 refine (zfs _).mono ?_
 rintro e w1 ⟨p,rfl,_,hb,hbel⟩
 have HB:=znq hb
 have HL:=znq hbel
 clear hb hbel
 go_wp2_with fail
 refine (zjd p boxes _ kX HB.znr (HG.znr.below HL.znr)).mono ?_
 rintro e w2 ⟨q,rfl,_,hb2,hbel2⟩
 have HT:=znq (show Tab w2 q p from ⟨HB.znr.below hbel2 HB.znr.lt,hb2⟩)
 have HL:=znq (HL.znr.trans (hbel2.mono HL.znr.size))
 clear hbel2 hb2
 go_wp2
 go_ret
 exact ⟨_,_,rfl,HT.znr,HL.znr⟩
theorem Ku (q:Nat) (alg:Int) (ao:Option Addr) (n cap:Nat) (w:World) (h1:alg≠1) (h2:alg≠2) (h3:alg≠3) :
  Calls Tryz.prog 41 #[.pointer (some ⟨q,0,none⟩),.int .i64 alg,.slice ao n cap] w fun e w'=>e=.returned (.tuple #[.nilIface,.int .i64 8])∧w=w':=by
 have d1:(alg==1)=false:=by simp;omega
 have d2:(alg==2)=false:=by simp;omega
 have d3:(alg==3)=false:=by simp;omega
 go_enter Tryz.func41,Tryz.ntmps41
 go_wp2
 go_ret2
 exact ⟨rfl,rfl⟩
theorem zki (q:Nat) (alg:Int) (ao:Option Addr) (n cap:Nat) (w:World) (h1:alg≠1) (h2:alg≠2) (h3:alg≠3) :
  Calls Tryz.prog 16 #[.pointer (some ⟨q,0,none⟩),.int .i64 alg,.slice ao n cap] w fun e w'=>e=.returned (.tuple #[.pointer none,.int .i64 8])∧w=w':=by
 have H:=znq (And.intro h1 (And.intro h2 h3))
 clear h1 h2 h3
 go_enter Tryz.func16,Tryz.ntmps16
 go_wp2_with fail
 refine (Ku q alg ao n cap _ H.out.1 H.out.2.1 H.out.2.2).mono ?_
 rintro e w1 ⟨rfl,rfl⟩
 go_wp2
 go_ret2
 exact ⟨rfl,rfl⟩
theorem J1 (cp kp q p:Nat) (k:zv) (w:World) (hc:zab w cp kp q p k):Calls Tryz.prog 20 #[.pointer (some ⟨cp,0,none⟩)] w fun e w'=>e=.returned (.int .i64 1)∧w=w':=by
 have hc0:=hc.blk.cell 0 _ rfl
 clear hc
 go_enter Tryz.func20,Tryz.ntmps20
 go_wp2
 go_ret
 exact ⟨rfl,rfl⟩
def Zd (t:List UInt8) (ao:Option Addr) (cap:Nat):List Str:=[⟨ao,cap,t⟩]
theorem zc2 (kp q p:Nat) (k:zv) (ao:Option Addr) (tn tc:Nat) (t:List UInt8) (bo:Option Addr) (n cb:Nat) (m:List UInt8) (w:World) (hk:xH w kp q p k) (ht:t.length=tn) (ht1:tn≤10000) (htc:tn≤tc) (hlt:zr w ao (t.map B))
  (hn:m.length=n) (h1:1≤n) (h31:n≤20000) (hcb:n≤cb) (hl:zr w bo (m.map B)) :
  Calls Tryz.prog 279 #[.agg #[.pointer (some ⟨kp,0,none⟩)],.slice ao tn tc,.slice bo n cb] w fun e w'=>∃ v,e=.returned (.tuple #[v,.int .i64 0])∧w'.ownsRow w.heap.size 5 1 v n ((rowA k [t] m false).map B)∧Below w.heap.size w w':=by
 have HK:=znq hk
 have HT:=znq ht
 have HLT:=znq hlt
 have HN:=znq hn
 have HL:=znq hl
 clear hk ht hlt hn hl
 go_enter Tryz.func279,Tryz.ntmps279
 go_wp2_with (refine zh 87 _ [.pointer (some ⟨kp,0,none⟩)] _ rfl rfl rfl rfl ?_)
 intro w1 hb hbel
 have HBK:=znq hb
 have HB:=znq hbel
 clear hb hbel
 go_wp2_with (refine HBK.znr.wload rfl rfl rfl jv rfl ?_)
 go_wp2_with fail
 have HSS:=znq (show xY (w1.alloc (.cells #[.slice ao tn tc] 22)) (some ⟨w1.heap.size,0,none⟩) (Zd t ao tc) from by
  refine ⟨?_,?_⟩
  ·have:=(Blk.new w1 [.slice ao tn tc] 22).lies
   simpa [Zd,Str.val,HT.znr] using this
  ·intro s hs
   simp [Zd] at hs
   subst hs
   exact ⟨by rw [HT.znr];exact htc,(HLT.znr.below HB.znr).below (zD _ _)⟩)
 have HB:=znq (HB.znr.trans ((zD w1 (.cells #[.slice ao tn tc] 22)).mono HB.znr.size))
 generalize w1.alloc (.cells #[.slice ao tn tc] 22)=w2 at *
 refine (zci kp q p k (some ⟨w1.heap.size,0,none⟩) 1 1 (Zd t ao tc) bo n cb m false _ (HK.znr.later HB.znr) rfl (by omega) HSS.znr (by intro s hs;simp [Zd] at hs;subst hs;rw [HT.znr];exact ht1) HN.znr h1 h31 hcb (HL.znr.below HB.znr)).mono ?_
 rintro e w3 ⟨v3,rfl,hown,hbel⟩
 have HO:=znq (yi hown HB.znr.size)
 have HB:=znq (HB.znr.trans (hbel.mono HB.znr.size))
 clear hown hbel
 go_wp2
 go_ret2
 exact ⟨_,rfl,HO.znr,HB.znr⟩
theorem zc3 (kp q p:Nat) (k:zv) (ao:Option Addr) (tn tc:Nat) (t:List UInt8) (bo:Option Addr) (n cb:Nat) (m:List UInt8) (w:World) (hk:xH w kp q p k) (ht:t.length=tn) (ht1:tn≤10000) (htc:tn≤tc) (hlt:zr w ao (t.map B))
  (hn:m.length=n) (h1:1≤n) (h31:n≤20000) (hcb:n≤cb) (hl:zr w bo (m.map B)) :
  Calls Tryz.prog 278 #[.agg #[.pointer (some ⟨kp,0,none⟩)],.slice ao tn tc,.slice bo n cb] w fun e w'=>∃ v,e=.returned (.tuple #[v,.int .i64 0])∧w'.ownsRow w.heap.size 5 1 v n ((rowA k [t] m true).map B)∧Below w.heap.size w w':=by
 have HK:=znq hk
 have HT:=znq ht
 have HLT:=znq hlt
 have HN:=znq hn
 have HL:=znq hl
 clear hk ht hlt hn hl
 go_enter Tryz.func278,Tryz.ntmps278
 go_wp2_with (refine zh 87 _ [.pointer (some ⟨kp,0,none⟩)] _ rfl rfl rfl rfl ?_)
 intro w1 hb hbel
 have HBK:=znq hb
 have HB:=znq hbel
 clear hb hbel
 go_wp2_with (refine HBK.znr.wload rfl rfl rfl jv rfl ?_)
 go_wp2_with fail
 have HSS:=znq (show xY (w1.alloc (.cells #[.slice ao tn tc] 22)) (some ⟨w1.heap.size,0,none⟩) (Zd t ao tc) from by
  refine ⟨?_,?_⟩
  ·have:=(Blk.new w1 [.slice ao tn tc] 22).lies
   simpa [Zd,Str.val,HT.znr] using this
  ·intro s hs
   simp [Zd] at hs
   subst hs
   exact ⟨by rw [HT.znr];exact htc,(HLT.znr.below HB.znr).below (zD _ _)⟩)
 have HB:=znq (HB.znr.trans ((zD w1 (.cells #[.slice ao tn tc] 22)).mono HB.znr.size))
 generalize w1.alloc (.cells #[.slice ao tn tc] 22)=w2 at *
 refine (zci kp q p k (some ⟨w1.heap.size,0,none⟩) 1 1 (Zd t ao tc) bo n cb m true _ (HK.znr.later HB.znr) rfl (by omega) HSS.znr (by intro s hs;simp [Zd] at hs;subst hs;rw [HT.znr];exact ht1) HN.znr h1 h31 hcb (HL.znr.below HB.znr)).mono ?_
 rintro e w3 ⟨v3,rfl,hown,hbel⟩
 have HO:=znq (yi hown HB.znr.size)
 have HB:=znq (HB.znr.trans (hbel.mono HB.znr.size))
 clear hown hbel
 go_wp2
 go_ret2
 exact ⟨_,rfl,HO.znr,HB.znr⟩
end Go.Proofs.YtbpghohkhngdfaaGreatDoor
namespace Go.Proofs.YtbpghohkhngdfaaGreatDoor
open Go.RowKit Go.Mem Go.Ops Go.Cells Go.Oct Go.Gf Go.Trn Go.Aes Go.Ring Go.Ezk Go.Ezh Go.Ezt Go.Ezc Go.Aez Go.Blake Go.CutP Go.Fl Go.Wid
attribute [local irreducible] zE zN zO zM yu
theorem zhr (cp kp q p:Nat) (k:zv) (ao:Option Addr) (tn tc:Nat) (t:List UInt8) (bo:Option Addr) (n cb:Nat) (m:List UInt8) (back:Bool) (w:World) (hk:zab w cp kp q p k) (ht:t.length=tn) (ht1:tn≤10000) (htc:tn≤tc) (hlt:zr w ao (t.map B))
  (hn:m.length=n) (h1:1≤n) (h31:n≤20000) (hcb:n≤cb) (hl:zr w bo (m.map B)) :
  Calls Tryz.prog 51 #[.pointer (some ⟨cp,0,none⟩),.slice ao tn tc,.slice bo n cb,.bool back] w fun e w'=>∃ v,e=.returned (.tuple #[v,.int .i64 0])∧w'.ownsRow w.heap.size 5 1 v n ((rowA k [t] m back).map B)∧Below w.heap.size w w':=by
 have HK:=znq hk
 have HT:=znq ht
 have HLT:=znq hlt
 have HN:=znq hn
 have HL:=znq hl
 have hc1:=hk.blk.cell 1 _ rfl
 have d1:decide ((n:Int) < 1)=false:=by simp;omega
 clear hk ht hlt hn hl
 cases back
 ·go_enter Tryz.func51,Tryz.ntmps51
  go_wp2_with fail
  refine (J1 cp kp q p k _ HK.znr).mono ?_
  rintro e w1 ⟨rfl,rfl⟩
  go_wp2_with fail
  refine (zc2 kp q p k ao tn tc t bo n cb m _ HK.znr.key HT.znr ht1 htc HLT.znr HN.znr h1 h31 hcb HL.znr).mono ?_
  rintro e w3 ⟨v3,rfl,hown,hbel⟩
  have HO:=znq hown
  have HB:=znq hbel
  clear hown hbel
  go_wp2
  go_ret2
  exact ⟨_,rfl,HO.znr,HB.znr⟩
 ·go_enter Tryz.func51,Tryz.ntmps51
  go_wp2_with fail
  refine (J1 cp kp q p k _ HK.znr).mono ?_
  rintro e w1 ⟨rfl,rfl⟩
  go_wp2_with fail
  refine (zc3 kp q p k ao tn tc t bo n cb m _ HK.znr.key HT.znr ht1 htc HLT.znr HN.znr h1 h31 hcb HL.znr).mono ?_
  rintro e w3 ⟨v3,rfl,hown,hbel⟩
  have HO:=znq hown
  have HB:=znq hbel
  clear hown hbel
  go_wp2
  go_ret2
  exact ⟨_,rfl,HO.znr,HB.znr⟩
theorem zmq (cp kp q p:Nat) (k:zv) (ao:Option Addr) (tn tc:Nat) (t:List UInt8) (bo:Option Addr) (n cb:Nat) (m:List UInt8) (w:World) (hk:zab w cp kp q p k) (ht:t.length=tn) (ht1:tn≤10000) (htc:tn≤tc) (hlt:zr w ao (t.map B))
  (hn:m.length=n) (h1:1≤n) (h31:n≤20000) (hcb:n≤cb) (hl:zr w bo (m.map B)) :
  Calls Tryz.prog 46 #[.pointer (some ⟨cp,0,none⟩),.slice ao tn tc,.slice bo n cb] w fun e w'=>∃ v,e=.returned (.tuple #[v,.int .i64 0])∧w'.ownsRow w.heap.size 5 1 v n ((rowA k [t] m false).map B)∧Below w.heap.size w w':=by
 have HC:=znq (zhr cp kp q p k ao tn tc t bo n cb m false w hk ht ht1 htc hlt hn h1 h31 hcb hl)
 clear hk ht hlt hn hl
 go_enter Tryz.func46,Tryz.ntmps46
 go_wp2_with fail
 refine HC.znr.mono ?_
 rintro e w3 ⟨v3,rfl,hown,hbel⟩
 have HO:=znq hown
 have HB:=znq hbel
 clear hown hbel
 go_wp2
 go_ret2
 exact ⟨_,rfl,HO.znr,HB.znr⟩
theorem J2 (n:Nat) (w:World):Calls Tryz.prog 44 #[.int .i64 n] w fun e w'=>e=.returned (.bool (decide (n=16∨n=24∨n=32)))∧w=w':=by
 by_cases h1:n=16
 ·subst h1
  have e1:decide (16=16∨16=24∨16=32)=true:=rfl
  rw [e1]
  go_enter Tryz.func44,Tryz.ntmps44
  go_wp2
  go_ret
  exact ⟨rfl,rfl⟩
 ·have d1:((n:Int)==16)=false:=by simp;omega
  by_cases h2:n=24
  ·subst h2
   have e1:decide (24=16∨24=24∨24=32)=true:=rfl
   rw [e1]
   go_enter Tryz.func44,Tryz.ntmps44
   go_wp2
   go_ret
   exact ⟨rfl,rfl⟩
  ·have d2:((n:Int)==24)=false:=by simp;omega
   have e1:decide (n=16∨n=24∨n=32)=((n:Int)==32):=by
    by_cases h3:n=32
    ·subst h3;rfl
    ·have:((n:Int)==32)=false:=by simp;omega
     rw [this];simp;omega
   rw [e1]
   go_enter Tryz.func44,Tryz.ntmps44
   go_wp2
   go_ret
   exact ⟨rfl,rfl⟩
theorem J3 (ao:Option Addr) (n cap:Nat) (w:World):Calls Tryz.prog 45 #[.slice ao n cap] w fun e w'=>e=.returned (.bool (decide (0 < n∧n≤128)))∧w=w':=by
 by_cases h0:n=0
 ·subst h0
  have d1:decide (0 < 0∧0≤128)=false:=by decide
  rw [d1]
  go_enter Tryz.func45,Tryz.ntmps45
  go_wp2
  go_ret
  exact ⟨rfl,rfl⟩
 ·have d0:decide ((n:Int) > 0)=true:=by simp;omega
  by_cases h1:n≤128
  ·have d1:decide (0 < n∧n≤128)=true:=by simp;omega
   have d2:decide ((n:Int)≤128)=true:=by simp;omega
   rw [d1]
   go_enter Tryz.func45,Tryz.ntmps45
   go_wp2
   go_ret
   exact ⟨rfl,rfl⟩
  ·have d1:decide (0 < n∧n≤128)=false:=by simp;omega
   have d2:decide ((n:Int)≤128)=false:=by simp;omega
   rw [d1]
   go_enter Tryz.func45,Tryz.ntmps45
   go_wp2
   go_ret
   exact ⟨rfl,rfl⟩
theorem qb (alg:Int) (ao:Option Addr) (n cap:Nat) (w:World):Calls Tryz.prog 18 #[.int .i64 alg,.slice ao n cap] w fun e w'=>e=.returned (.int .i64 (wrongG alg n))∧w=w':=by
 by_cases h1:alg=1
 ·subst h1
  by_cases h2:n=32
  ·subst h2
   have e:wrongG 1 32=0:=rfl
   rw [e]
   go_enter Tryz.func18,Tryz.ntmps18
   go_wp2
   go_ret
   exact ⟨rfl,rfl⟩
  ·have e:wrongG 1 n=2:=by unfold wrongG;rw [if_pos rfl,if_neg h2]
   have d:((n:Int) != 32)=true:=by simp;omega
   rw [e]
   go_enter Tryz.func18,Tryz.ntmps18
   go_wp2
   go_ret
   exact ⟨rfl,rfl⟩
 ·by_cases h2:alg=2
  ·subst h2
   by_cases h3:n=16∨n=24∨n=32
   ·have e:wrongG 2 n=0:=by unfold wrongG;rw [if_neg (by omega),if_pos rfl,if_pos h3]
    have d:decide (n=16∨n=24∨n=32)=true:=by simpa using h3
    rw [e]
    clear h3
    go_enter Tryz.func18,Tryz.ntmps18
    go_wp2_with fail
    refine (J2 n _).mono ?_
    rintro e w1 ⟨rfl,rfl⟩
    rw [d]
    go_wp2
    go_ret
    exact ⟨rfl,rfl⟩
   ·have e:wrongG 2 n=2:=by unfold wrongG;rw [if_neg (by omega),if_pos rfl,if_neg h3]
    have d:decide (n=16∨n=24∨n=32)=false:=by simpa using h3
    rw [e]
    clear h3
    go_enter Tryz.func18,Tryz.ntmps18
    go_wp2_with fail
    refine (J2 n _).mono ?_
    rintro e w1 ⟨rfl,rfl⟩
    rw [d]
    go_wp2
    go_ret
    exact ⟨rfl,rfl⟩
  ·by_cases h3:alg=3
   ·subst h3
    by_cases h4:0 < n∧n≤128
    ·have e:wrongG 3 n=0:=by unfold wrongG;rw [if_neg (by omega),if_neg (by omega),if_pos rfl,if_pos h4]
     have d:decide (0 < n∧n≤128)=true:=by simpa using h4
     rw [e]
     clear h4
     go_enter Tryz.func18,Tryz.ntmps18
     go_wp2_with fail
     refine (J3 ao n cap _).mono ?_
     rintro e w1 ⟨rfl,rfl⟩
     rw [d]
     go_wp2
     go_ret
     exact ⟨rfl,rfl⟩
    ·have e:wrongG 3 n=2:=by unfold wrongG;rw [if_neg (by omega),if_neg (by omega),if_pos rfl,if_neg h4]
     have d:decide (0 < n∧n≤128)=false:=by simp;omega
     rw [e]
     clear h4
     go_enter Tryz.func18,Tryz.ntmps18
     go_wp2_with fail
     refine (J3 ao n cap _).mono ?_
     rintro e w1 ⟨rfl,rfl⟩
     rw [d]
     go_wp2
     go_ret
     exact ⟨rfl,rfl⟩
   ·have e:wrongG alg n=8:=by unfold wrongG;rw [if_neg h1,if_neg h2,if_neg h3]
    rw [e]
    by_cases h4:alg < 1
    ·have d:decide (alg < 1)=true:=by simp;omega
     go_enter Tryz.func18,Tryz.ntmps18
     go_wp2
     go_ret
     exact ⟨rfl,rfl⟩
    ·have d:decide (alg < 1)=false:=by simp;omega
     have d2:decide (alg > 3)=true:=by simp;omega
     go_enter Tryz.func18,Tryz.ntmps18
     go_wp2
     go_ret
     exact ⟨rfl,rfl⟩
theorem J4 (alg:Int) (w:World):Calls Tryz.prog 21 #[.int .i64 alg] w fun e w'=>e=.returned (.int .i64 (wg alg))∧w=w':=by
 by_cases h3:alg=3
 ·subst h3
  have e:wg 3=1:=rfl
  rw [e]
  go_enter Tryz.func21,Tryz.ntmps21
  go_wp2
  go_ret
  exact ⟨rfl,rfl⟩
 ·have e:wg alg=16:=by unfold wg;rw [if_neg h3]
  have d:(alg==3)=false:=by simp;omega
  rw [e]
  go_enter Tryz.func21,Tryz.ntmps21
  go_wp2
  go_ret
  exact ⟨rfl,rfl⟩
def yf (alg:Int) (a1:Option Addr) (n1 c1:Nat) (a2:Option Addr) (n2 c2:Nat) (a3:Option Addr) (n3 c3:Nat) (back:Bool):List Value:=[.int .i64 alg,.slice a1 n1 c1,.slice a2 n2 c2,.slice a3 n3 c3,.bool back]
theorem zx:Row Tryz.prog 24 5:=⟨by kernel_rfl,by kernel_rfl⟩
theorem xc (alg:Int) (a1:Option Addr) (n1 c1:Nat) (a2:Option Addr) (n2 c2:Nat) (a3:Option Addr) (n3 c3:Nat) (back:Bool) (w:World) :
  Calls Tryz.prog 15 #[.agg (yf alg a1 n1 c1 a2 n2 c2 a3 n3 c3 back).toArray] w fun e w'=>e=.returned (.bool (decide (n1≤200∧n2≤100∧n3≤300)))∧Below w.heap.size w w':=by
 by_cases h1:n1≤200
 ·have d1:decide ((n1:Int)≤200)=true:=by simp;omega
  by_cases h2:n2≤100
  ·have d2:decide ((n2:Int)≤100)=true:=by simp;omega
   have e:decide (n1≤200∧n2≤100∧n3≤300)=decide ((n3:Int)≤300):=decide_eq_decide.2 ⟨fun h=>by omega,fun h=>⟨h1,h2,by omega⟩⟩
   rw [e]
   go_enter Tryz.func15,Tryz.ntmps15
   go_wp2_with (refine zh 24 _ (yf alg a1 n1 c1 a2 n2 c2 a3 n3 c3 back) _ rfl rfl rfl rfl ?_)
   intro w1 hb hbel
   have hx1:=hb.cell 1 _ rfl
   have hx2:=hb.cell 2 _ rfl
   have hx3:=hb.cell 3 _ rfl
   have HB:=znq hbel
   clear hb hbel
   go_wp2
   go_ret
   exact ⟨rfl,HB.znr⟩
  ·have d2:decide ((n2:Int)≤100)=false:=by simp;omega
   have e:decide (n1≤200∧n2≤100∧n3≤300)=false:=decide_eq_false (by omega)
   rw [e]
   go_enter Tryz.func15,Tryz.ntmps15
   go_wp2_with (refine zh 24 _ (yf alg a1 n1 c1 a2 n2 c2 a3 n3 c3 back) _ rfl rfl rfl rfl ?_)
   intro w1 hb hbel
   have hx1:=hb.cell 1 _ rfl
   have hx2:=hb.cell 2 _ rfl
   have HB:=znq hbel
   clear hb hbel
   go_wp2
   go_ret
   exact ⟨rfl,HB.znr⟩
 ·have d1:decide ((n1:Int)≤200)=false:=by simp;omega
  have e:decide (n1≤200∧n2≤100∧n3≤300)=false:=decide_eq_false (by omega)
  rw [e]
  go_enter Tryz.func15,Tryz.ntmps15
  go_wp2_with (refine zh 24 _ (yf alg a1 n1 c1 a2 n2 c2 a3 n3 c3 back) _ rfl rfl rfl rfl ?_)
  intro w1 hb hbel
  have hx1:=hb.cell 1 _ rfl
  have HB:=znq hbel
  clear hb hbel
  go_wp2
  go_ret
  exact ⟨rfl,HB.znr⟩
end Go.Proofs.YtbpghohkhngdfaaGreatDoor
namespace Go.Wid
def Y2 (alg:Int) (n1 n2 n3:Nat):Bool:=decide ((n1≤200∧n2≤100∧n3≤300)∧wrongG alg n1=0∧wg alg≤n3)
end Go.Wid
namespace Go.Proofs.YtbpghohkhngdfaaGreatDoor
open Go.RowKit Go.Mem Go.Ops Go.Cells Go.Oct Go.Gf Go.Trn Go.Aes Go.Ring Go.Ezk Go.Ezh Go.Ezt Go.Ezc Go.Aez Go.Blake Go.CutP Go.Fl Go.Wid
attribute [local irreducible] zE zN zO zM yu
theorem wh (alg:Int) (a1:Option Addr) (n1 c1:Nat) (a2:Option Addr) (n2 c2:Nat) (a3:Option Addr) (n3 c3:Nat) (back:Bool) (w:World) :
  Calls Tryz.prog 28 #[.agg (yf alg a1 n1 c1 a2 n2 c2 a3 n3 c3 back).toArray] w fun e w'=>e=.returned (.bool (Y2 alg n1 n2 n3))∧Below w.heap.size w w':=by
 have HS:=znq (St.start w)
 by_cases hs:n1≤200∧n2≤100∧n3≤300
 ·have ds:=decide_eq_true hs
  by_cases hw:wrongG alg n1=0
  ·have HW:=znq (show wrongG alg n1=0∧True from ⟨hw,trivial⟩)
   have e1:Y2 alg n1 n2 n3=decide (wg alg≤n3):=by
    unfold Y2
    exact decide_eq_decide.2 ⟨fun h=>by omega,fun h=>⟨hs,hw,by omega⟩⟩
   rw [e1]
   clear hs hw e1
   go_enter Tryz.func28,Tryz.ntmps28
   go_wp2_with (refine zh 24 _ (yf alg a1 n1 c1 a2 n2 c2 a3 n3 c3 back) _ rfl rfl rfl rfl ?_)
   intro w1 hb hbel;have HS:=znq (HS.znr.push hb hbel);clear hb hbel
   go_wp2_with fail
   refine zn [0,1,2,3,4,5,6,7,8,9,10,11,12,13,14,15,16,17,18,19] (by kernel_rfl) (by kernel_rfl) ?_
   rintro w2 rfl
   have HS:=znq HS.znr.drew
   refine zt (HS.znr.get 0 rfl).range (HS.znr.get 0 rfl).lt zx rfl rfl rfl rfl rfl (fun K hK=>?_)
   go_simp;refine hK _ ?_;clear hK K
   refine zi rfl rfl (by rfl) (fun K hK=>?_)
   go_simp
   refine (xc alg a1 n1 c1 a2 n2 c2 a3 n3 c3 back _).mono ?_
   rintro e w3 ⟨rfl,hbel⟩
   have HS:=znq (HS.znr.later hbel)
   rw [ds]
   go_simp
   refine hK _ _ hbel ?_
   clear hK K hbel
   have hc0:=fun (x:zG w3)=>((HS.znr.get 0 rfl).below x.later (HS.znr.get 0 rfl).lt).cell 0 _ rfl
   have hc1:=fun (x:zG w3)=>((HS.znr.get 0 rfl).below x.later (HS.znr.get 0 rfl).lt).cell 1 _ rfl
   have hc3:=fun (x:zG w3)=>((HS.znr.get 0 rfl).below x.later (HS.znr.get 0 rfl).lt).cell 3 _ rfl
   refine mqW ?_
   refine zi rfl rfl (by rfl) (fun K hK=>?_)
   go_simp
   refine (qb alg a1 n1 c1 _).mono ?_
   rintro e w4 ⟨rfl,rfl⟩
   rw [HW.znr.1]
   go_simp
   refine hK _ _ (zW.refl _) ?_
   clear hK K
   refine mqW ?_
   refine zi rfl rfl (by rfl) (fun K hK=>?_)
   go_simp
   refine (J4 alg _).mono ?_
   rintro e w4 ⟨rfl,rfl⟩
   go_simp
   refine hK _ _ (zW.refl _) ?_
   clear hK K
   refine mqW ?_
   refine zo ?_
   go_wp2
   go_ret
   exact ⟨rfl,HS.znr.bel⟩
  ·have hw0:((wrongG alg n1:Int)==0)=false:=by simp;omega
   have e1:Y2 alg n1 n2 n3=false:=by unfold Y2;exact decide_eq_false (fun h=>hw h.2.1)
   rw [e1]
   clear hs hw e1
   go_enter Tryz.func28,Tryz.ntmps28
   go_wp2_with (refine zh 24 _ (yf alg a1 n1 c1 a2 n2 c2 a3 n3 c3 back) _ rfl rfl rfl rfl ?_)
   intro w1 hb hbel;have HS:=znq (HS.znr.push hb hbel);clear hb hbel
   go_wp2_with fail
   refine zn [0,1,2,3,4,5,6,7,8,9,10,11,12,13,14,15,16,17,18,19] (by kernel_rfl) (by kernel_rfl) ?_
   rintro w2 rfl
   have HS:=znq HS.znr.drew
   refine zt (HS.znr.get 0 rfl).range (HS.znr.get 0 rfl).lt zx rfl rfl rfl rfl rfl (fun K hK=>?_)
   go_simp;refine hK _ ?_;clear hK K
   refine zi rfl rfl (by rfl) (fun K hK=>?_)
   go_simp
   refine (xc alg a1 n1 c1 a2 n2 c2 a3 n3 c3 back _).mono ?_
   rintro e w3 ⟨rfl,hbel⟩
   have HS:=znq (HS.znr.later hbel)
   rw [ds]
   go_simp
   refine hK _ _ hbel ?_
   clear hK K hbel
   have hc0:=fun (x:zG w3)=>((HS.znr.get 0 rfl).below x.later (HS.znr.get 0 rfl).lt).cell 0 _ rfl
   have hc1:=fun (x:zG w3)=>((HS.znr.get 0 rfl).below x.later (HS.znr.get 0 rfl).lt).cell 1 _ rfl
   refine mqW ?_
   refine zi rfl rfl (by rfl) (fun K hK=>?_)
   go_simp
   refine (qb alg a1 n1 c1 _).mono ?_
   rintro e w4 ⟨rfl,rfl⟩
   go_simp
   refine hK _ _ (zW.refl _) ?_
   clear hK K
   refine mqW ?_
   refine zo ?_
   go_wp2
   go_ret
   exact ⟨rfl,HS.znr.bel⟩
 ·have ds:=decide_eq_false hs
  have e1:Y2 alg n1 n2 n3=false:=by unfold Y2;exact decide_eq_false (fun h=>hs h.1)
  rw [e1]
  clear hs e1
  go_enter Tryz.func28,Tryz.ntmps28
  go_wp2_with (refine zh 24 _ (yf alg a1 n1 c1 a2 n2 c2 a3 n3 c3 back) _ rfl rfl rfl rfl ?_)
  intro w1 hb hbel;have HS:=znq (HS.znr.push hb hbel);clear hb hbel
  go_wp2_with fail
  refine zn [0,1,2,3,4,5,6,7,8,9,10,11,12,13,14,15,16,17,18,19] (by kernel_rfl) (by kernel_rfl) ?_
  rintro w2 rfl
  have HS:=znq HS.znr.drew
  refine zt (HS.znr.get 0 rfl).range (HS.znr.get 0 rfl).lt zx rfl rfl rfl rfl rfl (fun K hK=>?_)
  go_simp;refine hK _ ?_;clear hK K
  refine zi rfl rfl (by rfl) (fun K hK=>?_)
  go_simp
  refine (xc alg a1 n1 c1 a2 n2 c2 a3 n3 c3 back _).mono ?_
  rintro e w3 ⟨rfl,hbel⟩
  have HS:=znq (HS.znr.later hbel)
  rw [ds]
  go_simp
  refine hK _ _ hbel ?_
  clear hK K hbel
  refine mqW ?_
  refine zo ?_
  go_wp2
  go_ret
  exact ⟨rfl,HS.znr.bel⟩
theorem qc (w:World) (hg:Globals w) (hbg:qD w):Calls Tryz.prog 22 #[] w fun e w'=>e=.returned (.bool true)∧Below w.heap.size w w':=by
 have HG:=znq hg
 have HBG:=znq hbg
 have HS:=znq (St.start w)
 clear hg hbg
 go_enter Tryz.func22,Tryz.ntmps22
 go_wp2_with fail
 refine yn [] [0] [2,3,4,5,6,7] [zH.make 1 9 5 ((zf 32).map B)] (by kernel_rfl) (by kernel_rfl) ?_
 rintro w1 rfl
 have HS:=znq HS.znr.drew
 refine yK ⟨?_,?_,Nat.le_refl _⟩
 ·intro f hf
  simp only [List.mem_singleton] at hf
  subst hf
  exact WA _ _ _ 22 _ _ rfl rfl rfl rfl (by simp) (fun w'=>Kt w')
 refine zC rfl rfl (fun uz wa hla K hK=>?_)
 go_simp
 have HS:=znq (HS.znr.later hla)
 refine (wF _ (HG.znr.below HS.znr.bel)).mono ?_
 rintro e w2 ⟨q,p,rfl,ht,hbel⟩
 have HT:=znq ht
 have HS:=znq (HS.znr.later hbel)
 go_simp
 refine hK _ _ hbel ?_
 clear hK K hbel hla ht
 refine yZ (fun bx w3 hlb hbx hbn=>?_)
 go_simp
 have HS:=znq (HS.znr.later hlb)
 have HT:=znq (HT.znr.below hlb (Nat.le_refl _))
 clear hlb hbn
 refine zi rfl rfl (by rfl) (fun K hK=>?_)
 go_simp
 refine (zki q 4 (some ⟨bx,0,none⟩) 32 32 _ (by omega) (by omega) (by omega)).mono ?_
 rintro e w4 ⟨rfl,rfl⟩
 go_simp
 refine hK _ _ (zW.refl _) ?_
 clear hK K HT hbx
 refine mqR ?_
 refine zo ?_
 go_wp2_with fail
 refine yn [] [0] [2,3,4,5,6,7] [zH.make 1 15 5 ((zf 32).map B)] (by kernel_rfl) (by kernel_rfl) ?_
 rintro w5 rfl
 have HS:=znq HS.znr.drew
 refine yK ⟨?_,?_,Nat.le_refl _⟩
 ·intro f hf
  simp only [List.mem_singleton] at hf
  subst hf
  exact WA _ _ _ 22 _ _ rfl rfl rfl rfl (by simp) (fun w'=>Kt w')
 refine zC rfl rfl (fun uz wa hla K hK=>?_)
 go_simp
 have HS:=znq (HS.znr.later hla)
 refine (wF _ (HG.znr.below HS.znr.bel)).mono ?_
 rintro e w6 ⟨q2,p2,rfl,ht,hbel⟩
 have HT:=znq ht
 have HS:=znq (HS.znr.later hbel)
 go_simp
 refine hK _ _ hbel ?_
 clear hK K hbel hla ht
 refine yZ (fun by' w7 hlb hby hbn=>?_)
 go_simp
 have HS:=znq (HS.znr.later hlb)
 have HT:=znq (HT.znr.below hlb (Nat.le_refl _))
 have HLZ:=znq (show zr w7 (some ⟨by',0,none⟩) ((zf 32).map B) from (show Blk w7 by' ((zf 32).map B) 5 from hbn).lies)
 clear hlb hbn
 refine zi rfl rfl (by rfl) (fun K hK=>?_)
 go_simp
 refine (zmm q2 p2 (some ⟨by',0,none⟩) 32 32 (zf 32) _ (zd 32) (by omega) (by omega) (by omega) HLZ.znr HT.znr (HBG.znr.below HS.znr.bel)).mono ?_
 rintro e w8 ⟨cp,kp,rfl,hci,hbel⟩
 have HC:=znq hci
 have HS:=znq (HS.znr.later hbel)
 go_simp
 refine hK _ _ hbel ?_
 clear hK K hbel hci HT HLZ
 refine mqR ?_
 refine zo ?_
 go_wp2_with (at_make;refine jJ 22 5 (.int .u8 0) 1 5 rfl rfl rfl rfl Tryz.underlying22 yq rfl rfl rfl (by omega) (by unfold maxLen;omega) ?_)
 intro w9 hb hbel
 have hb:Blk w9 w8.heap.size ((zf 5).map B) 5:=hb
 have HL5:=znq hb.lies
 have HC:=znq (HC.znr.later hbel)
 have HS:=znq (HS.znr.later hbel)
 clear hb hbel
 go_wp2_with fail
 refine (zmq cp kp q2 p2 (ko (zf 32)) none 0 0 [] (some ⟨w8.heap.size,0,none⟩) 5 5 (zf 5) _ HC.znr rfl (by omega) (by omega) (zr.nil _ _) (zd 5) (by omega) (by omega) (by omega) HL5.znr).mono ?_
 rintro e w10 ⟨v10,rfl,hown,hbel⟩
 obtain ⟨ao10,cap10,rfl,_,_,_⟩:=zw hown
 have HC:=znq (HC.znr.later hbel)
 have HS:=znq (HS.znr.later hbel)
 clear hown hbel
 go_wp2_with fail
 refine (J1 cp kp q2 p2 _ _ HC.znr).mono ?_
 rintro e w11 ⟨rfl,rfl⟩
 go_wp2
 go_ret
 exact ⟨rfl,HS.znr.bel⟩
end Go.Proofs.YtbpghohkhngdfaaGreatDoor
namespace Go
def J5:Array Value→Sem Value:=fun args=>do
 let (x,y,b) ← Extern.MathBitsCarry.three "Sub64" args
 pure (Extern.MathBitsCarry.pair ((x+Extern.MathBitsCarry.m64 - y - b) % Extern.MathBitsCarry.m64) (if x < y+b then 1 else 0))
theorem zhs {P:Program} (x y k:Nat) (hk:k≤1) (w:World) :
  (J5 #[.int .u64 x,.int .u64 y,.int .u64 (k:Int)]).run P w =
   .ok (.tuple #[.int .u64 ((x+18446744073709551616 - y - k) % 18446744073709551616:Nat),.int .u64 ((if x < y+k then 1 else 0:Nat):Int)]) w:=by
 have:k=0∨k=1:=by omega
 rcases this with rfl | rfl <;> rfl
end Go
namespace Go.Adi
open Go.Ops
theorem zmr (p q:UInt64×UInt64):(plusW p q).1.toNat=(p.1.toNat+q.1.toNat) % 18446744073709551616:=by
 unfold plusW
 rw [zf9]
 unfold nat
 omega
theorem zms (p q:UInt64×UInt64):(plusW p q).2.toNat=(p.2.toNat+q.2.toNat+(p.1.toNat+q.1.toNat) / 18446744073709551616) % 18446744073709551616:=by
 unfold plusW
 rw [zga]
 unfold nat
 omega
theorem zkj (p q:UInt64×UInt64):(qp p q).1.toNat=(p.1.toNat+18446744073709551616 - q.1.toNat) % 18446744073709551616:=by
 have h1:=p.1.toNat_lt
 have h2:=q.1.toNat_lt
 have h3:=p.2.toNat_lt
 have h4:=q.2.toNat_lt
 unfold qp
 rw [zf9]
 unfold nat
 omega
theorem zkk (p q:UInt64×UInt64):(qp p q).2.toNat=(p.2.toNat+18446744073709551616 - q.2.toNat - (if p.1.toNat < q.1.toNat then 1 else 0)) % 18446744073709551616:=by
 have h1:=p.1.toNat_lt
 have h2:=q.1.toNat_lt
 have h3:=p.2.toNat_lt
 have h4:=q.2.toNat_lt
 unfold qp
 rw [zga]
 unfold nat
 split <;> omega
end Go.Adi
namespace Go.Proofs.YtbpghohkhngdfaaGreatDoor
open Go.RowKit Go.Mem Go.Ops Go.Cells Go.Oct Go.Adi
attribute [local irreducible] zE zN zO zM
def zQ (p:UInt64×UInt64):List Value:=[L p.1,L p.2]
theorem zX (p:UInt64×UInt64):∀ v∈zQ p,v.oneCell'=true:=by
 intro v hv
 simp [zQ] at hv
 rcases hv with rfl | rfl <;> rfl
theorem zc4 (x y k:Nat) (hk:k≤1) (w:World):(callFunc 251 #[.int .u64 x,.int .u64 y,.int .u64 k]).run Tryz.prog w=.ok (.value (.tuple #[.int .u64 ((x+y+k) % 18446744073709551616:Nat),.int .u64 ((x+y+k) / 18446744073709551616:Nat)])) w:=by
 rw [run_callFunc_extern Tryz.func251 (by kernel_rfl) (by kernel_rfl) (by kernel_rfl) (e:=add64Entry) (by kernel_rfl),run_add64 x y k (by omega) (by omega) (by omega) (by omega)]
 simp
theorem zc5 (x y k:Nat) (hk:k≤1) (w:World):(callFunc 296 #[.int .u64 x,.int .u64 y,.int .u64 k]).run Tryz.prog w=.ok (.value (.tuple #[.int .u64 ((x+18446744073709551616 - y - k) % 18446744073709551616:Nat),.int .u64 ((if x < y+k then 1 else 0:Nat):Int)])) w:=by
 rw [run_callFunc_extern Tryz.func296 (by kernel_rfl) (by kernel_rfl) (by kernel_rfl) (e:=J5) (by kernel_rfl),zhs x y k hk]
 rfl
theorem J6 (p q:UInt64×UInt64) (w:World):Calls Tryz.prog 238 #[.agg (zQ p).toArray,.agg (zQ q).toArray] w fun e w'=>e=.returned (.agg (zQ (plusW p q)).toArray)∧Below w.heap.size w w':=by
 obtain ⟨c,hc⟩:∃ c,c=(p.1.toNat+q.1.toNat) / 18446744073709551616:=⟨_,rfl⟩
 have hc1:c≤1:=by have:=p.1.toNat_lt;have:=q.1.toNat_lt;omega
 obtain ⟨d,hd⟩:∃ d,d=(p.2.toNat+q.2.toNat+c) / 18446744073709551616:=⟨_,rfl⟩
 have hr1:∀ w:World,(callFunc 251 #[.int .u64 p.1.toNat,.int .u64 q.1.toNat,.int .u64 0]).run Tryz.prog w=.ok (.value (.tuple #[.int .u64 (plusW p q).1.toNat,.int .u64 c])) w:=fun w=>by
  have:=zc4 p.1.toNat q.1.toNat 0 (by omega) w
  rw [Nat.add_zero,← zmr,← hc] at this
  exact this
 have hr2:∀ w:World,(callFunc 251 #[.int .u64 p.2.toNat,.int .u64 q.2.toNat,.int .u64 c]).run Tryz.prog w=.ok (.value (.tuple #[.int .u64 (plusW p q).2.toNat,.int .u64 d])) w:=fun w=>by
  have:=zc4 p.2.toNat q.2.toNat c hc1 w
  rw [← hd,hc,← zms,← hc] at this
  exact this
 obtain ⟨z,hz⟩:∃ z,z=plusW p q:=⟨_,rfl⟩
 rw [← hz] at hr1 hr2 ⊢
 have HS:=znq (St.start w)
 clear hc hd hz
 go_enter Tryz.func238,Tryz.ntmps238
 go_wp2_with (refine zh 284 _ (zQ p) _ rfl rfl rfl rfl ?_)
 intro w1 hb hbel;have HS:=znq (HS.znr.push hb hbel);have hlt1:=hb.lt;clear hb hbel
 go_wp2_with (refine zh 284 _ (zQ q) _ rfl rfl rfl rfl ?_)
 intro w2 hb hbel;have HS:=znq (HS.znr.push hb hbel);have hlt2:=hb.lt;clear hb hbel
 go_wp2_with (refine ze 284 ([L 0,L 0]) _ rfl rfl zT rfl ?_)
 intro w3 hb hbel;have HS:=znq (HS.znr.push hb hbel);have hlt3:=hb.lt;clear hb hbel
 generalize hbb:w.heap.size=bb at *
 generalize w1.heap.size=b1 at *
 generalize w2.heap.size=b2 at *
 have HBB:=znq hbb
 clear hbb
 have hx0:=(HS.znr.get 2 rfl).cell 0 (L p.1) rfl
 have hx1:=(HS.znr.get 2 rfl).cell 1 (L p.2) rfl
 have hy0:=(HS.znr.get 1 rfl).cell 0 (L q.1) rfl
 have hy1:=(HS.znr.get 1 rfl).cell 1 (L q.2) rfl
 go_wp2_with (refine (HS.znr.get 0 rfl).wstore rfl rfl rfl (cs:=zQ z) rfl zq rfl rfl (zX _) ?_)
 intro w4 hb ho
 have HE:=znq (zk HS.znr.bel ho (by omega))
 clear ho hx0 hx1 hy0 hy1
 go_wp2
 refine hb.result rfl rfl rfl zq rfl ⟨rfl,?_⟩
 rw [HBB.znr]
 exact HE.znr
theorem WB (p q:UInt64×UInt64) (w:World):Calls Tryz.prog 289 #[.agg (zQ p).toArray,.agg (zQ q).toArray] w fun e w'=>e=.returned (.agg (zQ (qp p q)).toArray)∧Below w.heap.size w w':=by
 obtain ⟨c,hc⟩:∃ c:Nat,c=(if p.1.toNat < q.1.toNat then 1 else 0):=⟨_,rfl⟩
 have hc1:c≤1:=by rw [hc];split <;> omega
 obtain ⟨d,hd⟩:∃ d:Nat,d=(if p.2.toNat < q.2.toNat+c then 1 else 0):=⟨_,rfl⟩
 have hr1:∀ w:World,(callFunc 296 #[.int .u64 p.1.toNat,.int .u64 q.1.toNat,.int .u64 0]).run Tryz.prog w=.ok (.value (.tuple #[.int .u64 (qp p q).1.toNat,.int .u64 c])) w:=fun w=>by
  have:=zc5 p.1.toNat q.1.toNat 0 (by omega) w
  simp only [Nat.sub_zero,Nat.add_zero] at this
  rw [← zkj,← hc] at this
  exact this
 have hr2:∀ w:World,(callFunc 296 #[.int .u64 p.2.toNat,.int .u64 q.2.toNat,.int .u64 c]).run Tryz.prog w=.ok (.value (.tuple #[.int .u64 (qp p q).2.toNat,.int .u64 d])) w:=fun w=>by
  have:=zc5 p.2.toNat q.2.toNat c hc1 w
  rw [← hd,hc,← zkk,← hc] at this
  exact this
 obtain ⟨z,hz⟩:∃ z,z=qp p q:=⟨_,rfl⟩
 rw [← hz] at hr1 hr2 ⊢
 have HS:=znq (St.start w)
 clear hc hd hz
 go_enter Tryz.func289,Tryz.ntmps289
 go_wp2_with (refine zh 284 _ (zQ p) _ rfl rfl rfl rfl ?_)
 intro w1 hb hbel;have HS:=znq (HS.znr.push hb hbel);have hlt1:=hb.lt;clear hb hbel
 go_wp2_with (refine zh 284 _ (zQ q) _ rfl rfl rfl rfl ?_)
 intro w2 hb hbel;have HS:=znq (HS.znr.push hb hbel);have hlt2:=hb.lt;clear hb hbel
 go_wp2_with (refine ze 284 ([L 0,L 0]) _ rfl rfl zT rfl ?_)
 intro w3 hb hbel;have HS:=znq (HS.znr.push hb hbel);have hlt3:=hb.lt;clear hb hbel
 generalize hbb:w.heap.size=bb at *
 generalize w1.heap.size=b1 at *
 generalize w2.heap.size=b2 at *
 have HBB:=znq hbb
 clear hbb
 have hx0:=(HS.znr.get 2 rfl).cell 0 (L p.1) rfl
 have hx1:=(HS.znr.get 2 rfl).cell 1 (L p.2) rfl
 have hy0:=(HS.znr.get 1 rfl).cell 0 (L q.1) rfl
 have hy1:=(HS.znr.get 1 rfl).cell 1 (L q.2) rfl
 go_wp2_with (refine (HS.znr.get 0 rfl).wstore rfl rfl rfl (cs:=zQ z) rfl zq rfl rfl (zX _) ?_)
 intro w4 hb ho
 have HE:=znq (zk HS.znr.bel ho (by omega))
 clear ho hx0 hx1 hy0 hy1
 go_wp2
 refine hb.result rfl rfl rfl zq rfl ⟨rfl,?_⟩
 rw [HBB.znr]
 exact HE.znr
end Go.Proofs.YtbpghohkhngdfaaGreatDoor
namespace Go
open Go.RowKit
section
variable {P:Program} {ops:Array Oper} {Q:Exit→Act→World→Prop} {md:Region.Mode} {R:World→World→Prop} {brk:List Nat}
theorem Xi (hrf:∀ a,R a a) {i:Nat} {oi:Oper} {v:Value} (hi:ops[i]? = some oi) (hsel:∀ (j:Nat) (o:Oper) cs b,ops[j]? = some o→o.op≠.select cs b)
  (hQ:∀ c a w,Q (.panic c) (a.put oi.dst v) w→Q (.panic c) a w) (D:Nat→Bool) (hDi:D i=false)
  (hD:∀ d,D d=true→∃ od,ops[d]? = some od∧∃ e∈od.after,Region.binds md e=true∧(e.on=i∨D e.on=true)) :
  ∀ (fuel:Nat) (listed:Array Bool) (a:Act) (w:World),
   (∀ d,D d=true→listed.getD d true=false) →
   (∀ j oj,ops[j]? = some oj→j≠i→listed.getD j true=false→D j=false→oi.apart ops oj=true) →
   i∈Region.ready md ops listed→YieldsIf P ops (fun _=>True) oi v a →
   qj R brk P md ops Q fuel (listed.setIfInBounds i true) (a.put oi.dst v) w→qj R brk P md ops Q (fuel+1) listed a w:=by
 intro fuel
 induction fuel with
 | zero =>
  intro listed a w _ _ hr hy H
  refine ⟨fun h=>(by rw [h] at hr;cases hr),fun j hj=>?_⟩
  by_cases hji:j=i
  ·subst hji;exact hy.wpOp hi trivial ⟨fun _=>hrf w,H⟩
  ·have:=ready_mono hj hji
   rw [H.1] at this
   cases this
 | succ fuel ih =>
  intro listed a w hun hfree hr hy H
  refine ⟨fun h=>(by rw [h] at hr;cases hr),fun j hj=>?_⟩
  by_cases hji:j=i
  ·subst hji;exact hy.wpOp hi trivial ⟨fun _=>hrf w,H⟩
  ·have h1:=H.2 j (ready_mono hj hji)
   obtain ⟨hjun,oj,hoj,hall⟩:=mem_ready.1 hj
   have hget:∀ k,listed.getD k true=false→(listed[k]?).getD true=false:=fun k hk=>by
    rcases Nat.lt_or_ge k listed.size with h' | h'
    ·simpa [Array.getD,h'] using hk
    ·simp [Array.getD,Nat.not_lt.2 h'] at hk
   have hDj:D j=false:=by
    cases hdj:D j with
    | false=>rfl
    | true =>
     obtain ⟨od,hod,e,he,hb,hon⟩:=hD j hdj
     rw [hoj] at hod
     cases hod
     have h1:=hall e he hb
     have h0:listed.getD e.on true=false:=by
      rcases hon with h | h
      ·rw [h];exact (mem_ready.1 hr).1
      ·exact hun _ h
     rcases Nat.lt_or_ge e.on listed.size with h' | h'
     ·simp [h'] at h0 h1;rw [h0] at h1;cases h1
     ·simp [Array.getElem?_eq_none h'] at h1
   have hfj:=hfree j oj hoj hji hjun hDj
   have h2:=wpOp_putIf hoj hfj (fun cs b=>hsel i oi cs b hi) (fun cs b=>hsel j oj cs b hoj) hQ hy h1
   have hun':∀ d,D d=true→(listed.setIfInBounds j true).getD d true=false:=fun d hd=>by
    have hne:j≠d:=by rintro rfl;rw [hDj] at hd;cases hd
    rw [getD_set_ne true hne]
    exact hun d hd
   have hfree':∀ k ok,ops[k]? = some ok→k≠i→(listed.setIfInBounds j true).getD k true=false →
     D k=false→oi.apart ops ok=true:=fun k ok hk hki hun hno=>by
    refine hfree k ok hk hki ?_ hno
    by_cases hjk:j=k
    ·subst hjk;exact hjun
    ·rw [getD_set_ne true hjk] at hun;exact hun
   refine wpOp_mono (fun a' w' h3=>⟨h3.2.1,ih (listed.setIfInBounds j true) a' w' hun' hfree' (ready_mono hr (Ne.symm hji)) h3.1 ?_⟩) h2
   rw [Array.setIfInBounds_comm _ _ hji]
   exact h3.2.2
def Region.checkN (brk:List Nat) (md:Region.Mode) (ops:Array Oper):List (Nat×Nat)→Array Bool→Bool
 | [],listed=>Region.ready md ops listed==[]
 | (i,q)::r,listed =>
  (match ops[i]? with
   | none=>false
   | some _=>if q=2 then (Region.ready md ops listed).contains i && Region.freeK [] md ops listed i
    else if q=1 then (Region.ready md ops listed).contains i && Region.freeK brk md ops listed i else Region.ready md ops listed==[i]) &&
  Region.checkN brk md ops r (listed.setIfInBounds i true)
def yJ (R:World→World→Prop) (brk:List Nat) (P:Program) (ops:Array Oper) (Q:Exit→Act→World→Prop):List (Nat×Nat)→Act→World→Prop
 | [],a,w=>Q .normal a w
 | (i,q)::r,a,w =>
  match ops[i]? with
  | none=>False
  | some o =>
   if Region.wanted o (yielded ops a.tmps)=true then
    (if q=2 then ∃ v,(∀ w',(execOp a.eval o).run P w'=.ok (.value v) w')∧yJ R brk P ops Q r (a.put o.dst v) w
     else if q=1 then ∃ v,(∀ w',R w w'→(execOp a.eval o).run P w'=.ok (.value v) w')∧yJ R brk P ops Q r (a.put o.dst v) w
     else o.wp P a w (fun a' w'=>(brk.contains i=false→R w w')∧yJ R brk P ops Q r a' w') Q)
   else yJ R brk P ops Q r (a.put o.dst undef) w
theorem xh (hrf:∀ a,R a a) (ht:∀ a b c,R a b→R b c→R a c) (hs:Region.noSelect ops=true) (hQ:∀ c a w,¬ Q (.panic c) a w):∀ (order:List (Nat×Nat)) (listed:Array Bool) (a:Act) (w:World),
  Region.checkN brk md ops order listed=true→yJ R brk P ops Q order a w→qj R brk P md ops Q order.length listed a w
 | [],listed,a,w,hB,h=>by
  simp only [Region.checkN,beq_iff_eq] at hB
  exact ⟨hB,h⟩
 | (i,q)::r,listed,a,w,hB,h=>by
  simp only [Region.checkN,Bool.and_eq_true] at hB
  obtain ⟨hB1,hB2⟩:=hB
  cases ho:ops[i]? with
  | none=>simp [ho] at hB1
  | some o =>
   simp only [ho] at hB1
   simp only [yJ,ho] at h
   by_cases q2:q=2
   ·simp only [q2,if_true,Bool.and_eq_true] at hB1 h
    obtain ⟨D,hDi,hD,hDu,hDf⟩:=Region.freeK_spec ho hB1.2
    have hDf':∀ j oj,ops[j]? = some oj→j≠i→listed.getD j true=false→D j=false→o.apart ops oj=true:=fun j oj h1 h2 h3 h4=>(hDf j oj h1 h2 h3 h4).1
    by_cases hw:Region.wanted o (yielded ops a.tmps)=true
    ·rw [if_pos hw] at h
     obtain ⟨v,hv,hr⟩:=h
     exact Xi hrf ho (Region.noSelect_spec hs) (fun c a w hq=>absurd hq (hQ _ _ _)) D hDi hD r.length listed a w hDu hDf' (by simpa using hB1.1) (.inl ⟨hw,fun w' _=>hv w'⟩)
      (xh hrf ht hs hQ r _ _ _ hB2 hr)
    ·rw [if_neg hw] at h
     exact Xi hrf ho (Region.noSelect_spec hs) (fun c a w hq=>absurd hq (hQ _ _ _)) D hDi hD r.length listed a w hDu hDf' (by simpa using hB1.1) (.inr ⟨by simpa using hw,rfl⟩)
      (xh hrf ht hs hQ r _ _ _ hB2 h)
   ·simp only [if_neg q2] at hB1 h
    by_cases q1:q=1
    ·simp only [q1,if_true,Bool.and_eq_true] at hB1 h
     obtain ⟨D,hDi,hD,hDu,hDf⟩:=Region.freeK_spec ho hB1.2
     by_cases hw:Region.wanted o (yielded ops a.tmps)=true
     ·rw [if_pos hw] at h
      obtain ⟨v,hv,hr⟩:=h
      exact qW hrf ht ho (Region.noSelect_spec hs) (fun c a w hq=>absurd hq (hQ _ _ _)) D hDi hD r.length listed a w hDu hDf (by simpa using hB1.1) (.inl ⟨hw,hv⟩)
       (xh hrf ht hs hQ r _ _ _ hB2 hr)
     ·rw [if_neg hw] at h
      exact qW hrf ht ho (Region.noSelect_spec hs) (fun c a w hq=>absurd hq (hQ _ _ _)) D hDi hD r.length listed a w hDu hDf (by simpa using hB1.1) (.inr ⟨by simpa using hw,rfl⟩)
       (xh hrf ht hs hQ r _ _ _ hB2 h)
    ·simp only [if_neg q1,beq_iff_eq] at hB1 h
     refine ⟨fun h0=>(by rw [hB1] at h0;cases h0),fun j hj=>?_⟩
     rw [hB1] at hj
     obtain rfl:j=i:=by simpa using hj
     unfold wpOp
     simp only [ho]
     by_cases hw:Region.wanted o (yielded ops a.tmps)=true
     ·rw [if_pos hw] at h ⊢
      refine .inl (Oper.wp_mono ?_ h)
      intro a' w' h'
      refine ⟨h'.1,xh hrf ht hs hQ r _ _ _ hB2 h'.2⟩
     ·rw [if_neg hw] at h ⊢
      exact ⟨fun _=>hrf w,xh hrf ht hs hQ r _ _ _ hB2 h⟩
theorem kW {id:Nat} {l:List Oper} {a:Act} {w:World} (R:World→World→Prop) (brk:List Nat) (order:List (Nat×Nat)) (hrf:∀ a,R a a) (ht:∀ a b c,R a b→R b c→R a c) (hm:P.follows .mixedOrders=true)
  (hB:(Region.noSelect l.toArray && (order.length==l.length) && Region.checkN brk .any l.toArray order (Array.replicate l.length false))=true)
  (h:∀ w',w'=w.drew→yJ R brk P l.toArray (NoPanic Q) order a w'):(Code.region id l.toArray true).wp P Q a w:=by
 simp only [Bool.and_eq_true,beq_iff_eq] at hB
 obtain ⟨⟨hs,hl⟩,hB⟩:=hB
 refine wp_region_noPanic (wp_region_any hm (ZD (R:=R) (brk:=brk) _ _ _ _ ?_))
 have:=xh (R:=R) (brk:=brk) (P:=P) (Q:=NoPanic Q) hrf ht hs (fun c a w hq=>hq) order _ a w.drew hB (h _ rfl)
 rw [hl] at this
 exact this
theorem jA {a:Act} {w:World} (h:Q .normal a w):yJ R brk P ops (NoPanic Q) [] a w:=h
theorem yS {i:Nat} {r:List (Nat×Nat)} {o:Oper} {a:Act} {w:World} (ho:ops[i]? = some o) (hw:Region.wanted o (yielded ops a.tmps)=true)
  (h:∀ K:Act→World→Prop,(∀ a' w',(brk.contains i=false→R w w')→yJ R brk P ops Q r a' w'→K a' w')→o.wp P a w K Q):yJ R brk P ops Q ((i,0)::r) a w:=by
 simp only [yJ,ho,hw,if_true,if_neg (show ¬ (0=2) by omega),if_neg (show ¬ (0=1) by omega)]
 exact h _ fun _ _ h1 h2=>⟨h1,h2⟩
theorem walkN_one {i:Nat} {r:List (Nat×Nat)} {o:Oper} {tl:List Oper} {a:Act} {w:World} (hd:ops.toList.drop i=o::tl) (hk:o.kindR=0)
  (hh:∀ K:Act→Prop,(∀ a',yJ R brk P ops Q r a' w→K a')→wpQuiet P ops (KJ R w) K [o] a):yJ R brk P ops Q ((i,1)::r) a w:=by
 have h:=hh (fun a'=>yJ R brk P ops Q r a' w) (fun _ h=>h)
 have ho:ops[i]? = some o:=by
  have:=congrArg (·[0]?) hd
  simpa using this
 simp only [wpQuiet] at h
 simp only [yJ,ho,if_neg (show ¬ (1=2) by omega),if_true]
 by_cases hw:Region.wanted o (yielded ops a.tmps)=true
 ·rw [if_pos hw] at h ⊢
  obtain ⟨v,hv,hn⟩:=h
  exact ⟨v,fun w' hw'=>xv hk (hv w' ⟨⟨w',hw'⟩,rfl⟩),hn⟩
 ·rw [if_neg hw] at h ⊢
  exact h
theorem walkN_pure {i:Nat} {r:List (Nat×Nat)} {o:Oper} {tl:List Oper} {a:Act} {w:World} (hd:ops.toList.drop i=o::tl) (hk:o.kindR=0)
  (hh:∀ K:Act→Prop,(∀ a',yJ R brk P ops Q r a' w→K a')→wpQuiet P ops (KJ (fun _ _=>True) w) K [o] a):yJ R brk P ops Q ((i,2)::r) a w:=by
 have h:=hh (fun a'=>yJ R brk P ops Q r a' w) (fun _ h=>h)
 have ho:ops[i]? = some o:=by
  have:=congrArg (·[0]?) hd
  simpa using this
 simp only [wpQuiet] at h
 simp only [yJ,ho,if_true]
 by_cases hw:Region.wanted o (yielded ops a.tmps)=true
 ·rw [if_pos hw] at h ⊢
  obtain ⟨v,hv,hn⟩:=h
  exact ⟨v,fun w'=>xv hk (hv w' ⟨⟨w',trivial⟩,rfl⟩),hn⟩
 ·rw [if_neg hw] at h ⊢
  exact h
instance (w:World):Nonempty (xR (fun _ _=>True) w):=⟨⟨w,trivial⟩⟩
end
end Go
namespace Go.Proofs.YtbpghohkhngdfaaGreatDoor
open Go.RowKit Go.Mem Go.Ops Go.Cells Go.Oct Go.Trn Go.Cha
attribute [local irreducible] zE zN zO zM yJ
theorem yW:Row Tryz.prog 275 16:=⟨by kernel_rfl,by kernel_rfl⟩
theorem zao {fn:Func} {t u v x:Tmp} (h:fn.results=#[.tmp t,.tmp u,.tmp v,.tmp x]) (tmps:Array Value) (P:Program) (w:World) :
  (results fn tmps).run P w=.ok (.tuple #[tmps.getD t undef,tmps.getD u undef,tmps.getD v undef,tmps.getD x undef]) w:=by
 simp [results,h]
def zkl (n:Nat):Prop:=n=16∨n=12∨n=8∨n=7
theorem zkm (x:UInt32) (n:Nat) (w:World) (hn:zkl n):Calls Tryz.prog 260 #[W x,.int .i64 n] w fun e w'=>e=.returned (W (zf2 x n))∧w=w':=by
 rcases hn with rfl | rfl | rfl | rfl
 ·show Calls _ _ #[W x,.int .i64 16] w _
  have hz2:bits .and .u64 16 31=16:=by decide
  go_enter Tryz.func260,Tryz.ntmps260
  go_wp2
  go_ret
  exact ⟨rfl,rfl⟩
 ·show Calls _ _ #[W x,.int .i64 12] w _
  have hz2:bits .and .u64 12 31=12:=by decide
  go_enter Tryz.func260,Tryz.ntmps260
  go_wp2
  go_ret
  exact ⟨rfl,rfl⟩
 ·show Calls _ _ #[W x,.int .i64 8] w _
  have hz2:bits .and .u64 8 31=8:=by decide
  go_enter Tryz.func260,Tryz.ntmps260
  go_wp2
  go_ret
  exact ⟨rfl,rfl⟩
 ·show Calls _ _ #[W x,.int .i64 7] w _
  have hz2:bits .and .u64 7 31=7:=by decide
  go_enter Tryz.func260,Tryz.ntmps260
  go_wp2
  go_ret
  exact ⟨rfl,rfl⟩
theorem KP (a b d:UInt32) (n:Nat) (w:World) (hn:zkl n):Calls Tryz.prog 258 #[W a,W b,W d,.int .i64 n] w fun e w'=>e=.returned (.tuple #[W (jI a b),W (zf2 (y5 d (jI a b)) n)])∧w=w':=by
 have HN:=znq hn
 clear hn
 go_enter Tryz.func258,Tryz.ntmps258
 go_wp2_with fail
 refine (zkm _ n _ HN.znr).mono ?_
 rintro e w1 ⟨rfl,rfl⟩
 go_wp2
 go_ret2
 exact ⟨rfl,rfl⟩
def zkn (f:zac):Array Value:=#[W f.a,W f.b,W f.c,W f.d]
theorem ze4 (f:zac) (w:World):Calls Tryz.prog 250 (zkn f) w fun e w'=>e=.returned (.tuple (zkn (quarter f)))∧w=w':=by
 obtain ⟨a,b,c,d⟩:=f
 show Calls _ _ #[W a,W b,W c,W d] w _
 obtain ⟨g1,h1⟩:∃ g,g=q1 ⟨a,b,c,d⟩ 16:=⟨_,rfl⟩
 obtain ⟨g2,h2⟩:∃ g,g=q2 g1 12:=⟨_,rfl⟩
 obtain ⟨g3,h3⟩:∃ g,g=q1 g2 8:=⟨_,rfl⟩
 obtain ⟨g4,h4⟩:∃ g,g=q2 g3 7:=⟨_,rfl⟩
 have HE:=znq (show quarter ⟨a,b,c,d⟩=g4∧True from ⟨by rw [h4,h3,h2,h1];rfl,trivial⟩)
 obtain ⟨a1,b1,c1,d1⟩:=g1
 obtain ⟨a2,b2,c2,d2⟩:=g2
 obtain ⟨a3,b3,c3,d3⟩:=g3
 obtain ⟨a4,b4,c4,d4⟩:=g4
 simp only [q1,q2,zac.mk.injEq] at h1 h2 h3 h4
 have H1:=znq (And.intro h1 trivial)
 have H2:=znq (And.intro h2 trivial)
 have H3:=znq (And.intro h3 trivial)
 have H4:=znq (And.intro h4 trivial)
 clear h1 h2 h3 h4
 go_enter Tryz.func250,Tryz.ntmps250
 go_wp2_with fail
 refine (KP a b d 16 _ (.inl rfl)).mono ?_
 rintro e w1 ⟨rfl,rfl⟩
 rw [← H1.znr.1.2.2.2,← H1.znr.1.1]
 go_wp2_with fail
 refine (KP c d1 b 12 _ (.inr (.inl rfl))).mono ?_
 rintro e w1 ⟨rfl,rfl⟩
 obtain ⟨rfl,rfl⟩:b1=b∧c1=c:=⟨H1.znr.1.2.1,H1.znr.1.2.2.1⟩
 rw [← H2.znr.1.2.1,← H2.znr.1.2.2.1]
 go_wp2_with fail
 obtain ⟨rfl,rfl⟩:a2=a1∧d2=d1:=⟨H2.znr.1.1,H2.znr.1.2.2.2⟩
 refine (KP a2 b2 d2 8 _ (.inr (.inr (.inl rfl)))).mono ?_
 rintro e w1 ⟨rfl,rfl⟩
 rw [← H3.znr.1.2.2.2,← H3.znr.1.1]
 go_wp2_with fail
 obtain ⟨rfl,rfl⟩:b3=b2∧c3=c2:=⟨H3.znr.1.2.1,H3.znr.1.2.2.1⟩
 refine (KP c3 d3 b3 7 _ (.inr (.inr (.inr rfl)))).mono ?_
 rintro e w1 ⟨rfl,rfl⟩
 rw [← H4.znr.1.2.1,← H4.znr.1.2.2.1]
 go_wp2
 (try simp only [Exit.inBlock,Exit.then])
 refine bodyPost_ret (zao rfl _ _ _) rfl ?_
 rw [HE.znr.1]
 obtain ⟨rfl,rfl⟩:a4=a3∧d4=d3:=⟨H4.znr.1.1,H4.znr.1.2.2.2⟩
 exact ⟨rfl,rfl⟩
instance (w:World):Nonempty (xR (fun u v=>Below u.heap.size u v) w):=⟨⟨w,Below.refl _ _⟩⟩
theorem J7 (pv y:Nat) (vs:List UInt32) (w:World) (hb:Blk w pv (vs.map W) 275) (hl:vs.length=16) (hy:y < 2) :
  Calls Tryz.prog 235 #[.pointer (some ⟨pv,0,none⟩),.int .i64 y] w fun e w'=>(∃ v,e=.returned v)∧Blk w' pv ((jd y vs 4).map W) 275∧Only pv w w':=by
 have HB:=znq hb
 have HL:=znq (show vs.length=16∧True from ⟨hl,trivial⟩)
 have HO:=znq (Only.refl pv w)
 have m2:IntKind.i64.wrap (2*(y:Int))=2*(y:Int):=IntWalk.i64_in _ (by omega)
 have m3:IntKind.i64.wrap (3*(y:Int))=3*(y:Int):=IntWalk.i64_in _ (by omega)
 clear hb hl
 go_enter Tryz.func235,Tryz.ntmps235
 go_wp2
 go_loopw [8] (fun c wr=>∃ (i:Nat),i≤4∧c=.int .i64 i∧Hid (Blk wr pv ((jd y vs i).map W) 275)∧Hid (Only pv w wr)) (fun c _=>4 - (intOf c).toNat)
 case atStart=>exact ⟨0,by omega,rfl,HB,HO⟩
 case round =>
  clear HB HO
  obtain ⟨i,hi,rfl,HB,HO⟩:=hrel
  by_cases hlt:i < 4
  ·obtain ⟨r1,hr1⟩:∃ r1,r1=(i+y) % 4:=⟨_,rfl⟩
   obtain ⟨r2,hr2⟩:∃ r1,r1=(i+2*y) % 4:=⟨_,rfl⟩
   obtain ⟨r3,hr3⟩:∃ r1,r1=(i+3*y) % 4:=⟨_,rfl⟩
   obtain ⟨b1,hb1⟩:∃ r,r=4+r1:=⟨_,rfl⟩
   obtain ⟨b2,hb2⟩:∃ r,r=8+r2:=⟨_,rfl⟩
   obtain ⟨b3,hb3⟩:∃ r,r=12+r3:=⟨_,rfl⟩
   have e1:((i:Int)+(y:Int)) % 4=(r1:Int):=by omega
   have e2:((i:Int)+2*(y:Int)) % 4=(r2:Int):=by omega
   have e3:((i:Int)+3*(y:Int)) % 4=(r3:Int):=by omega
   have f1:(4:Int)+(r1:Int)=(b1:Int):=by omega
   have f2:(8:Int)+(r2:Int)=(b2:Int):=by omega
   have f3:(12:Int)+(r3:Int)=(b3:Int):=by omega
   obtain ⟨us,hus⟩:∃ us,us=jd y vs i:=⟨_,rfl⟩
   have HE:=znq (show jd y vs (i+1)=Zp us i b1 b2 b3∧True from ⟨by rw [hb1,hb2,hb3,hr1,hr2,hr3,hus];rfl,trivial⟩)
   have HL1:=znq (show us.length=16∧True from ⟨by rw [hus,qT];exact HL.znr.1,trivial⟩)
   have g1:b1 < 16:=by omega
   have g2:b2 < 16:=by omega
   have g3:b3 < 16:=by omega
   rw [← hus] at HB
   clear hus hb1 hb2 hb3 hr1 hr2 hr3
   obtain ⟨f,hf⟩:∃ f,f=quarter ⟨yR us i,yR us b1,yR us b2,yR us b3⟩:=⟨_,rfl⟩
   have HF:=znq (show quarter ⟨yR us i,yR us b1,yR us b2,yR us b3⟩=f∧True from ⟨hf.symm,trivial⟩)
   have HQ:=znq (show Zp us i b1 b2 b3=(((us.set i f.a).set b1 f.b).set b2 f.c).set b3 f.d∧True from ⟨by rw [hf];rfl,trivial⟩)
   clear hf
   have hc0:=fun (x:xR (fun u v=>Below u.heap.size u v) wr.drew)=>(HB.znr.drew.below x.rel HB.znr.drew.lt).cell i _ (kz (qO (l:=us) (i:=i) (by rw [HL1.znr.1];omega)))
   have hc1:=fun (x:xR (fun u v=>Below u.heap.size u v) wr.drew)=>(HB.znr.drew.below x.rel HB.znr.drew.lt).cell b1 _ (kz (qO (l:=us) (i:=b1) (by rw [HL1.znr.1];omega)))
   have hc2:=fun (x:xR (fun u v=>Below u.heap.size u v) wr.drew)=>(HB.znr.drew.below x.rel HB.znr.drew.lt).cell b2 _ (kz (qO (l:=us) (i:=b2) (by rw [HL1.znr.1];omega)))
   have hc3:=fun (x:xR (fun u v=>Below u.heap.size u v) wr.drew)=>(HB.znr.drew.below x.rel HB.znr.drew.lt).cell b3 _ (kz (qO (l:=us) (i:=b3) (by rw [HL1.znr.1];omega)))
   go_wp2_with fail
   refine kW (fun u v=>Below u.heap.size u v) [36,39,42,45] [(0,2),(1,2),(2,2),(3,2),(4,2),(5,2),(6,2),(7,2),(8,2),(9,2),(10,2),(11,2),(12,1),(13,2),(14,2),(15,2),(16,2),(17,1),(18,2),(19,2),(20,2),(21,2),(22,1),(23,2),(24,2),(25,2),(26,2),(27,1),(34,2),(37,2),(40,2),(43,2),(28,0),(29,2),(30,2),(31,2),(32,2),(33,2),(35,2),(36,0),(38,2),(39,0),(41,2),(42,0),(44,2),(45,0)] (fun a=>Below.refl _ a) (fun _ _ _ h1 h2=>h1.trans (h2.mono h1.size)) (by kernel_rfl) (by kernel_rfl) ?_
   rintro w1 rfl
   have HB:=znq HB.znr.drew
   have HO:=znq (Zm HO.znr)
   refine mqN ?_
   clear hc0 hc1 hc2 hc3
   refine yS rfl (by rfl) (fun K hK=>?_)
   go_simp
   refine (ze4 ⟨yR us i,yR us b1,yR us b2,yR us b3⟩ _).mono ?_
   rintro e w2 ⟨rfl,rfl⟩
   rw [HF.znr.1]
   unfold zkn
   go_simp
   refine hK _ _ (fun _=>Below.refl _ _) ?_
   clear hK K
   refine mqN ?_
   refine yS rfl (by rfl) (fun K hK=>?_)
   refine HB.znr.opset (v:=W f.a) rfl rfl rfl yt rfl rfl (by rw [List.length_map,HL1.znr.1];omega) (fun w2 hb2 ho2=>hK _ _ (fun h=>by cases h) ?_)
   clear hK K
   rw [xI] at hb2
   have HB:=znq hb2
   have HO:=znq (HO.znr.trans ho2)
   clear hb2 ho2
   go_simp
   refine mqN ?_
   refine yS rfl (by rfl) (fun K hK=>?_)
   refine HB.znr.opset (v:=W f.b) rfl rfl rfl yt rfl rfl (by rw [List.length_map,List.length_set,HL1.znr.1];omega) (fun w2 hb2 ho2=>hK _ _ (fun h=>by cases h) ?_)
   clear hK K
   rw [xI] at hb2
   have HB:=znq hb2
   have HO:=znq (HO.znr.trans ho2)
   clear hb2 ho2
   go_simp
   refine mqN ?_
   refine yS rfl (by rfl) (fun K hK=>?_)
   refine HB.znr.opset (v:=W f.c) rfl rfl rfl yt rfl rfl (by rw [List.length_map,List.length_set,List.length_set,HL1.znr.1];omega) (fun w2 hb2 ho2=>hK _ _ (fun h=>by cases h) ?_)
   clear hK K
   rw [xI] at hb2
   have HB:=znq hb2
   have HO:=znq (HO.znr.trans ho2)
   clear hb2 ho2
   go_simp
   refine mqN ?_
   refine yS rfl (by rfl) (fun K hK=>?_)
   refine HB.znr.opset (v:=W f.d) rfl rfl rfl yt rfl rfl (by rw [List.length_map,List.length_set,List.length_set,List.length_set,HL1.znr.1];omega) (fun w2 hb2 ho2=>hK _ _ (fun h=>by cases h) ?_)
   clear hK K
   rw [xI,← HQ.znr.1,← HE.znr.1] at hb2
   have HB:=znq hb2
   have HO:=znq (HO.znr.trans ho2)
   clear hb2 ho2
   go_simp
   refine jA ?_
   go_wp2
   go_roundw
   case rel=>exact ⟨i+1,by omega,by go_num,HB,HO⟩
   case measure=>simp [intOf];omega
  ·obtain rfl:i=4:=by omega
   go_wp2
   go_end0
   exact ⟨⟨_,rfl⟩,HB.znr,HO.znr⟩
end Go.Proofs.YtbpghohkhngdfaaGreatDoor

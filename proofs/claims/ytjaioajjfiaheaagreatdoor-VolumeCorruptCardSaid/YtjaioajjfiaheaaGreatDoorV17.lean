/-
  Texts of this claim, one behind the other.
-/
import Derived.Test.YtjaioajjfiaheaaGreatDoorV1
import Derived.Test.YtjaioajjfiaheaaGreatDoorV16
import Derived.Test.YtjaioajjfiaheaaGreatDoorV7
import Derived.Test.YtjaioajjfiaheaaGreatDoorV9
import Derived.Test.YtjaioajjfiaheaaGreatDoorV15
import Derived.Test.YtjaioajjfiaheaaGreatDoorV8
import Derived.Test.YtjaioajjfiaheaaGreatDoorV6
import Derived.Test.YtjaioajjfiaheaaGreatDoorV3
import Derived.Handy
import Derived.Lib.Hide
set_option linter.unusedVariables false
set_option linter.unusedSimpArgs false
set_option maxHeartbeats 16000000
set_option maxRecDepth 100000
open Array renaming getD→gU
open List renaming ext_getElem?→uA,getElem?_eq_none→qc,length_drop→XQ,length_map→yf,length_set→Vo,length_take→Ku,mem_map→ug,mem_of_getElem?→xU,range→uf,replicate→wh
open Nat renaming add_zero→gG,le_refl→xc,lt_or_ge→bg
open UInt64 renaming ofNat→wF
namespace Go.Hct
open Ops Oct Trn Aes zkV Adi
open Go.Ezt (plusB xz vF YP yr kg ZF)
def upR (w:UInt64×UInt64):UInt64×UInt64:=(qf (xf w.1 1) (yp w.2 63),qf (qf (xf w.2 1) (yp w.1 63)) (xP (yp w.2 63) 13979173243358019584))
def zcB (w:UInt64×UInt64):UInt64×UInt64:=(qf (yp w.1 1) (xf w.2 63),qf (yp w.2 1) (xP (xk w.1 1) 16212958658533785600))
def zcR (w:UInt64×UInt64) (i:Nat):UInt64:=if i < 64 then xk (yp w.1 i) 1 else xk (yp w.2 (i - 64)) 1
def rY (a b:UInt64×UInt64) (f:UInt64):UInt64×UInt64:=(qf a.1 (xP f b.1),qf a.2 (xP f b.2))
def zgc (x y:UInt64×UInt64):Nat→UInt64×UInt64
 | 0=>(0,0)
 | i+1=>zcB (rY (zgc x y i) x (zcR y i))
def zgM (x y:UInt64×UInt64):UInt64×UInt64:=zgc x y 128
def Qt (h:List UInt8):Nat→UInt64×UInt64
 | 0=>zgM (xo h) (1,0)
 | k+1=>upR (Qt h k)
def atP (t:List (UInt64×UInt64)) (i:Nat):UInt64×UInt64:=t.getD i (0,0)
def jX (h:List UInt8):Nat→List (UInt64×UInt64)
 | 0=>wh 16 (0,0)
 | m+1=>(jX h m).set (m+1) (rY (atP (jX h m) (m+1 - 2 ^ (m+1).log2)) (Qt h (m+1).log2) 1)
def zcy (h:List UInt8):List (UInt64×UInt64):=jX h 15
theorem ZS (h:List UInt8):∀ m,(jX h m).length=16
 | 0=>by simp [jX]
 | m+1=>by rw [jX,Vo,ZS h m]
def zcz (t:List (UInt64×UInt64)) (s:UInt64×UInt64) (n:UInt8):UInt64×UInt64:=rY (upR (upR (upR (upR s)))) (atP t n.toNat) 1
def JY (t:List (UInt64×UInt64)) (a:List UInt8):Nat→UInt64×UInt64
 | 0=>(0,0)
 | i+1=>zcz t (zcz t (JY t a i) (rF (at8 a (15 - i)) 4)) (rE (at8 a (15 - i)) 15)
def zcK (t:List (UInt64×UInt64)) (a:List UInt8):List UInt8:=z7 (JY t a 16)
theorem YD (t:List (UInt64×UInt64)) (a:List UInt8):(zcK t a).length=16:=zZ _
def jq (t:List (UInt64×UInt64)) (v b:List UInt8):List UInt8:=if h:b.length=0 then v else jq t (zcK t (block (nX v b))) (b.drop 16)
termination_by b.length
decreasing_by simp;omega
theorem Wx (t:List (UInt64×UInt64)) (v:List UInt8):jq t v []=v:=by unfold jq;simp
theorem JZ {t:List (UInt64×UInt64)} {v b:List UInt8} (h:b.length≠0):jq t v b=jq t (zcK t (block (nX v b))) (b.drop 16):=by
 conv=>lhs;unfold jq
 rw [dif_neg h]
theorem ZT (t:List (UInt64×UInt64)):∀ (n:Nat) (v b:List UInt8),b.length≤n→v.length=16→(jq t v b).length=16
 | n,v,b,h,hv=>by
  by_cases h0:b.length=0
  ·rw [List.eq_nil_of_length_eq_zero h0,Wx];exact hv
  ·rw [JZ h0]
   match n,h with
   | 0,h=>omega
   | n+1,h=>exact ZT t n _ _ (by rw [XQ];omega) (YD _ _)
def kD (n:Nat) (kind:UInt64):List UInt8:=z7 (wi (xf (wF n) 4) kind,yp (wF n) 60)
def kE (mU m:List UInt8):List UInt8:=if m.length % 16=0 then kD mU.length 2++kF mU 16++m else kD mU.length 3++kF mU 16++qv m 1 16
def nN (h mU m:List UInt8):List UInt8:=jq (zcy h) (zf 16) (kF (kE mU m) 16)
theorem nK (h mU m:List UInt8):(nN h mU m).length=16:=ZT _ _ _ _ (xc _) (zd 16)
def zak (start:List UInt8) (i:Nat):List UInt8:=(uf 16).map fun j=>if j < 8 then ya (at8 start j) (at8 (zz (wF i)) j) else at8 start j
def j7 (ks:List (List UInt8)) (start:List UInt8) (i:Nat):List UInt8:=enc ks (zak start i)
theorem Zb (ks:List (List UInt8)) (start:List UInt8) (i:Nat):(j7 ks start i).length=16:=xJ _ _
def xS (ks:List (List UInt8)) (start b:List UInt8):List UInt8:=(uf b.length).map fun j=>ya (at8 b j) (at8 (j7 ks start (1+j / 16)) (j % 16))
theorem jH (ks:List (List UInt8)) (start b:List UInt8):(xS ks start b).length=b.length:=by simp [xS]
theorem zal (ks:List (List UInt8)) (start b:List UInt8):xS ks start (xS ks start b)=b:=by
 apply uA
 intro i
 by_cases h:i < b.length
 ·have h1:(xS ks start b)[i]? = some (ya (at8 b i) (at8 (j7 ks start (1+i / 16)) (i % 16))):=by simp [xS,h]
  have h2:(xS ks start (xS ks start b))[i]? = some (ya (at8 (xS ks start b) i) (at8 (j7 ks start (1+i / 16)) (i % 16))):=by
   conv=>lhs;unfold xS
   rw [List.getElem?_map,List.getElem?_range (by simp [h])]
   rfl
  rw [h2,Oct.nL h1,ZF,Oct.mR h]
 ·rw [qc (by rw [jH,jH];omega),qc (by omega)]
structure ziq where
 ks:List (List UInt8)
 h:List UInt8
 l:List UInt8
def J0 (n:Nat) (long:Bool) (key:List UInt8):ziq:=⟨expand n long key,enc (expand n long key) (zf 16),enc (expand n long key) (1::zf 15)⟩
theorem YW (a b:List UInt8) (h:a.length=16):plusB [a,b]=both a b:=by
 show both (both (zf 16) a) b=_
 rw [YP h]
theorem ze3 (a b l:List UInt8):plusB [a,b,l]=plusB [b,a,l]:=by
 show both (both (both (zf 16) a) b) l=both (both (both (zf 16) b) a) l
 rw [xz (zf 16) a b,vF a b,← xz]
def Zc (k:ziq) (mU m:List UInt8):List UInt8:=plusB [block (m.take 16),nN k.h mU (m.drop 16)]
def rz (k:ziq) (mU m two:List UInt8):List UInt8 :=
 plusB [two,nN k.h mU (xS k.ks (plusB [Zc k mU m,two,k.l]) (m.drop 16))]++xS k.ks (plusB [Zc k mU m,two,k.l]) (m.drop 16)
def zam (k:ziq) (mU m:List UInt8):List UInt8:=rz k mU m (enc k.ks (Zc k mU m))
def zan (k:ziq) (mU m:List UInt8):List UInt8:=rz k mU m (dec k.ks (Zc k mU m))
theorem mO (a b:List UInt8):(plusB [a,b]).length=16:=zB _ _
theorem YE (k:ziq) (mU m:List UInt8):(Zc k mU m).length=16:=mO _ _
theorem Qu (k:ziq) (mU m two:List UInt8) (h:16≤m.length):(rz k mU m two).length=m.length:=by
 unfold rz
 rw [List.length_append,mO,jH,XQ]
 omega
theorem zc0 (k:ziq) (mU m:List UInt8) (h:16≤m.length):(zam k mU m).length=m.length:=Qu _ _ _ _ h
theorem zc1 (k:ziq) (mU m:List UInt8) (h:16≤m.length):(zan k mU m).length=m.length:=Qu _ _ _ _ h
theorem vP {b:List UInt8} (h:b.length=16):block b=b:=by
 apply uA
 intro i
 by_cases hi:i < 16
 ·rw [Oct.mR (by omega:i < b.length)]
  simp [block,hi]
 ·rw [qc (by rw [zA];omega),qc (by omega)]
theorem Wy (k:ziq) (mU m two:List UInt8) (h:16≤m.length) (h2:two.length=16) :
  Zc k mU (rz k mU m two)=two∧rz k mU (rz k mU m two) (Zc k mU m)=m:=by
 have hd:(rz k mU m two).drop 16=xS k.ks (plusB [Zc k mU m,two,k.l]) (m.drop 16):=by
  unfold rz
  rw [List.drop_append_of_le_length (by rw [mO];omega),List.drop_eq_nil_of_le (by rw [mO];omega),List.nil_append]
 have ht:(rz k mU m two).take 16=plusB [two,nN k.h mU (xS k.ks (plusB [Zc k mU m,two,k.l]) (m.drop 16))]:=by
  unfold rz
  rw [List.take_append_of_le_length (by rw [mO];omega),List.take_of_length_le (by rw [mO];omega)]
 have ho:Zc k mU (rz k mU m two)=two:=by
  unfold Zc
  rw [ht,hd,vP (mO _ _),YW _ _ (mO _ _),YW _ _ h2,yr h2]
 refine ⟨ho,?_⟩
 have hb:block (m.take 16)=m.take 16:=vP (by rw [Ku];omega)
 have h1:Zc k mU m=both (m.take 16) (nN k.h mU (m.drop 16)):=by
  unfold Zc
  rw [hb,YW _ _ (by rw [Ku];omega)]
 generalize rz k mU m two=z at *
 unfold rz
 rw [ho,hd,ze3 two,zal,YW _ _ (YE _ _ _),h1,yr (by rw [Ku];omega),List.take_append_drop]
theorem zho (k:ziq) (hk:2≤k.ks.length) (mU:List UInt8) {m:List UInt8} (h:16≤m.length):zan k mU (zam k mU m)=m:=by
 obtain ⟨h1,h2⟩:=Wy k mU m (enc k.ks (Zc k mU m)) h (xJ _ _)
 unfold zan zam
 rw [h1,zf7 hk (YE _ _ _),h2]
theorem zhp (k:ziq) (hk:2≤k.ks.length) (mU:List UInt8) {m:List UInt8} (h:16≤m.length):zam k mU (zan k mU m)=m:=by
 obtain ⟨h1,h2⟩:=Wy k mU m (dec k.ks (Zc k mU m)) h (kG _ _)
 unfold zan zam
 rw [h1,zf8 hk (YE _ _ _),h2]
end Go.Hct
namespace Go.Wid
open Ops Oct Aes Ezk Aez Adi Hct
inductive ku where
 | adi (k:kV)
 | hct (k:ziq)
 | aez (k:zv)
def ku.alg:ku→Nat
 | .adi _=>1
 | .hct _=>2
 | .aez _=>3
def ku.least:ku→Nat
 | .adi _=>16
 | .hct _=>16
 | .aez _=>1
def ku.Fit:ku→Prop
 | .adi k=>2≤k.ks.length
 | .hct k=>2≤k.ks.length
 | .aez _=>True
def xM (k:ku) (mU m:List UInt8) (back:Bool):List UInt8 :=
 match k with
 | .adi k=>if back then XL k mU m else XK k mU m
 | .hct k=>if back then zan k mU m else zam k mU m
 | .aez k=>tK k [mU] m back
theorem q7 {k:ku} (mU:List UInt8) {m:List UInt8} (back:Bool) (h:k.least≤m.length):(xM k mU m back).length=m.length:=by
 cases k with
 | adi k=>cases back;exact zcv _ _ h;exact zcw _ _ h
 | hct k=>cases back;exact zc0 _ _ _ h;exact zc1 _ _ _ h
 | aez k=>exact Kg _ _ _ _
theorem XM {k:ku} (hk:k.Fit) (mU:List UInt8) {m:List UInt8} (back:Bool) (h:k.least≤m.length):xM k mU (xM k mU m back) (!back)=m:=by
 cases k with
 | adi k=>cases back;exact zhm _ hk _ h;exact zhn _ hk _ h
 | hct k=>cases back;exact zho _ hk _ h;exact zhp _ hk _ h
 | aez k=>exact zg8 _ _ _ _
def ni (alg:Int) (n:Nat):Nat :=
 if alg=1 then (if n=32 then 0 else 2)
 else if alg=2 then (if n=16∨n=24∨n=32 then 0 else 2)
 else if alg=3 then (if 0 < n∧n≤128 then 0 else 2)
 else 8
def jy (alg:Int) (key:List UInt8):ku :=
 if alg=1 then .adi (zkf key) else if alg=2 then .hct (J0 (key.length / 4) (key.length==32) key) else .aez (zqx key)
theorem we (alg:Int) (key:List UInt8):(jy alg key).Fit:=by
 unfold jy
 split
 ·exact zkg key
 ·split
  ·show 2≤(expand _ _ _).length
   rw [wJ]
   omega
  ·trivial
end Go.Wid
namespace Go.Mem
open RowKit Cells Ops
theorem _root_.Go.Cells.Blk.zd1 {w:World} {b:Nat} {vs:List Value} {ty:TypeId} (h:Blk w b vs ty) (i:Nat):w.cell? ⟨b,i,none⟩=vs[i]?:=by
 unfold Blk at h
 simp [World.cell?,h]
theorem _root_.Go.Cells.Only.zcC {b:Nat} {w w':World} (h:Only b w w') {c:Nat} (i:Nat) (hne:c≠b):w'.cell? ⟨c,i,none⟩=w.cell? ⟨c,i,none⟩:=by
 simp [World.cell?,h.block c hne]
theorem zr.only {w w':World} {ao:Option Addr} {xs vs:List Value} {b:Nat} {ty:TypeId} (h:zr w ao xs) (hb:Blk w b vs ty) (hne:∀ x∈xs,x∉vs) (ho:Only b w w'):zr w' ao xs:=by
 intro j u hu
 obtain ⟨c,off,e,hc⟩:=h j u hu
 refine ⟨c,off,e,?_⟩
 by_cases he:c=b
 ·subst he
  exfalso
  refine hne u (xU hu) ?_
  have h1:w.cell? ⟨c,off+j,none⟩=vs[off+j]?:=hb.zd1 _
  rw [hc] at h1
  exact xU h1.symm
 ·rw [← hc]
  exact ho.zcC _ he
theorem Str.In.only {w w':World} {s:Str} {vs:List Value} {b:Nat} {ty:TypeId} (h:s.In w) (hb:Blk w b vs ty) (hne:∀ x:UInt8,B x∉vs) (ho:Only b w w'):s.In w' :=
 ⟨h.le,h.lies.only hb (by intro x hx;obtain ⟨y,_,rfl⟩:=ug.1 hx;exact hne y) ho⟩
theorem xY.only {w w':World} {ao:Option Addr} {ss:List Str} {vs:List Value} {b:Nat} {ty:TypeId} (h:xY w ao ss) (hb:Blk w b vs ty) (h1:∀ s∈ss,s.val∉vs) (hne:∀ x:UInt8,B x∉vs) (ho:Only b w w'):xY w' ao ss :=
 ⟨h.lies.only hb (by intro x hx;obtain ⟨y,hy,rfl⟩:=ug.1 hx;exact h1 y hy) ho,fun s hs=>(h.each s hs).only hb hne ho⟩
end Go.Mem
namespace Go.Cells
open RowKit
theorem zpb {P:Program} {w:World} {op:Oper} {a:Act} {K:Act→World→Prop} {Q:Exit→Act→World→Prop} (t e:TypeId) (z:Value) (by':Nat) (n:Nat) {l c:Operand} {kl kc:IntKind} {L C:Int}
  (hop:op.op=Op.makeSlice t l c) (hl:a.eval l=.int kl L) (hc:a.eval c=.int kc C) (h1:P.underlying t=some (.slice e)) (hi:(P.info? e).map (fun i=>(i.zero,i.size,i.bytes))=some (some z,1,by')) (hz:z.cells=#[z])
  (hL:L=(n:Int)) (hC:C=(n:Int)) (b2:by'*n≤281474976710656) (b3:n≤maxLen)
  (k:∀ w',Blk w' w.heap.size (wh n z) e→Below w.heap.size w w'→K (a.put op.dst (.slice (some ⟨w.heap.size,0,none⟩) n n)) w'):op.wp P a w K Q:=by
 obtain ⟨i0,hi0,hz0,hz1,hz2⟩:=info_parts hi
 obtain ⟨w',hrun,hown,hgrow⟩:=run_make_full (P:=P) w w.heap.size t e i0 z 1 h1 hi0 hz0 hz1 kl kc n (by rw [hz2];exact b2) b3 (xc _)
 subst hL
 subst hC
 have hb:=(KX hown).1
 have e1:(madeCells z.cells (n*1)).toList=wh n z:=by
  rw [hz,Nat.mul_one,toList_madeCells_one]
 rw [e1] at hb
 unfold Oper.wp
 simp [execOp,hop,hl,hc,hrun,Result.andThen]
 exact k w' hb ((Below.refl w.heap.size w).grown hgrow (xc _) (fun k h=>by cases h))
end Go.Cells
namespace Go.Proofs.YtjaioajjfiaheaaGreatDoor
open RowKit Mem Ops Cells Oct Gf Trn Aes Ring Ezk Ezh Ezt Aez Blake ru Fl
attribute [local irreducible] zE zN zO zM yu
structure Bnd (w:World) (bc br cp kp q p:Nat) (k:zv) (a:Addr) (ss:List Str):Prop where
 c:Blk w bc [.pointer (some ⟨cp,0,none⟩)] 28
 r:Blk w br [.slice (some a) 2 2] 23
 ciph:ziS w cp kp q p k
 len:ss.length=2
 strs:xY w (some a) ss
 lens:∀ s∈ss,s.bs.length≤10000
theorem Bnd.later {w w':World} {bc br cp kp q p:Nat} {k:zv} {a:Addr} {ss:List Str} (h:Bnd w bc br cp kp q p k a ss) (hb:Below w.heap.size w w'):Bnd w' bc br cp kp q p k a ss :=
 ⟨h.c.below hb h.c.lt,h.r.below hb h.r.lt,h.ciph.later hb,h.len,h.strs.below hb,h.lens⟩
abbrev Wz (us:Nat→Value):Act:={ tmps:=#[us 0,us 1,us 2,us 3,us 4,us 5,us 6,us 7,us 8,us 9,us 10,us 11,us 12,us 13,us 14,us 15,us 16,us 17,us 18,us 19,us 20,us 21,us 22,us 23,us 24,us 25,us 26,us 27,us 28,us 29,us 30,us 31,us 32,us 33,us 34,us 35,us 36,us 37,us 38,us 39,us 40,us 41,us 42,us 43,us 44,us 45,us 46,us 47,us 48,us 49,us 50,us 51,us 52,us 53,us 54,us 55,us 56,us 57,us 58,us 59,us 60,us 61,us 62,us 63,us 64,us 65,us 66,us 67],defers:=[] }
def zkh (N:Prop) (w:World) (x:Act) (wr:World):Prop:=∃ us:Nat→Value,x=Wz us∧Hid N∧Hid (Below w.heap.size w wr)
theorem zkh.intro {N:Prop} {w:World} {x:Act} {wr:World} (hx:x=Wz (fun i=>x.tmps.getD i undef)) (h1:N) (h2:Below w.heap.size w wr):zkh N w x wr:=⟨_,hx,h1,h2⟩
end Go.Proofs.YtjaioajjfiaheaaGreatDoor
namespace Go
open RowKit
section
variable {P:Program} {ops:Array Oper} {Q:Exit→Act→World→Prop}
def zH.make (i:Nat) (d:Tmp) (e:TypeId) (vs:List Value):zH:=⟨i,d,.cells vs.toArray e,fun n=>.slice (some ⟨n,0,none⟩) vs.length vs.length⟩
@[go_sem,simp] theorem ziT (i:Nat) (d:Tmp) (t:TypeId) (vs:List Value):(zH.make i d t vs).dst=d:=rfl
@[go_sem,simp] theorem ziU (i:Nat) (d:Tmp) (t:TypeId) (vs:List Value) (n:Nat):(zH.make i d t vs).val n=.slice (some ⟨n,0,none⟩) vs.length vs.length:=rfl
@[go_sem,simp] theorem ziV (i:Nat) (d:Tmp) (t:TypeId) (vs:List Value):(zH.make i d t vs).obj=.cells vs.toArray t:=rfl
theorem WA {a:Act} {w:World} (i:Nat) (d:Tmp) (e t:TypeId) (vs:List Value) (o:Oper) {l c:Operand} (ho:ops[i]? = some o) (hop:o.op=.makeSlice t l c) (hd:o.dst=some d) (hg:o.guard=none) (hsz:d < a.tmps.size)
  (hrun:∀ w',(Instr.makeSlice t (a.eval l) (a.eval c)).run P w'=.ok (.slice (some ⟨w'.heap.size,0,none⟩) vs.length vs.length) (w'.alloc (.cells vs.toArray e))):(zH.make i d e vs).Fits P ops a w:=by
 refine ⟨hsz,o,ho,hd,hg,by simp [hop],fun w' _=>?_⟩
 simp [execOp,hop,hrun,zH.make]
end
end Go
namespace Go.Proofs.YtjaioajjfiaheaaGreatDoor
open RowKit Mem Ops Cells Oct Gf Trn Aes Ring Ezk Ezh Ezt Ezc Aez Blake ru Fl Wid
attribute [local irreducible] zE zN zO zM yu
theorem Kt (w:World):(Instr.makeSlice 22 (.int .i64 32) (.int .i64 32)).run Tryz.prog w=.ok (.slice (some ⟨w.heap.size,0,none⟩) 32 32) (w.alloc (.cells ((zf 32).map B).toArray 5)):=by kernel_rfl
theorem zsv (q:Nat) (alg:Int) (ao:Option Addr) (n cap:Nat) (w:World) (h1:alg≠1) (h2:alg≠2) (h3:alg≠3) :
  Calls Tryz.prog 70 #[.pointer (some ⟨q,0,none⟩),.int .i64 alg,.slice ao n cap] w fun e w'=>e=.returned (.tuple #[.nilIface,.int .i64 8])∧w=w':=by
 have d1:(alg==1)=false:=by simp;omega
 have d2:(alg==2)=false:=by simp;omega
 have d3:(alg==3)=false:=by simp;omega
 go_enter Tryz.func70,Tryz.ntmps70
 go_wp2
 go_ret2
 exact ⟨rfl,rfl⟩
def Zd (t:List UInt8) (ao:Option Addr) (cap:Nat):List Str:=[⟨ao,cap,t⟩]
theorem zc2 (kp q p:Nat) (k:zv) (ao:Option Addr) (tn tc:Nat) (t:List UInt8) (bo:Option Addr) (n cb:Nat) (m:List UInt8) (w:World) (hk:xH w kp q p k) (ht:t.length=tn) (ht1:tn≤10000) (htc:tn≤tc) (hlt:zr w ao (t.map B))
  (hn:m.length=n) (h1:1≤n) (h31:n≤20000) (hcb:n≤cb) (hl:zr w bo (m.map B)) :
  Calls Tryz.prog 204 #[.agg #[.pointer (some ⟨kp,0,none⟩)],.slice ao tn tc,.slice bo n cb] w fun e w'=>∃ v,e=.returned (.tuple #[v,.int .i64 0])∧w'.ownsRow w.heap.size 5 1 v n ((tK k [t] m false).map B)∧Below w.heap.size w w':=by
 have HK:=znq hk
 have HT:=znq ht
 have HLT:=znq hlt
 have HN:=znq hn
 have HL:=znq hl
 clear hk ht hlt hn hl
 go_enter Tryz.func204,Tryz.ntmps204
 go_wp2_with (refine zh 93 _ [.pointer (some ⟨kp,0,none⟩)] _ rfl rfl rfl rfl ?_)
 intro w1 hb hbel
 have HBK:=znq hb
 have HB:=znq hbel
 clear hb hbel
 go_wp2_with (refine HBK.znr.mP rfl rfl rfl jv rfl ?_)
 go_wp2_with fail
 have HSS:=znq (show xY (w1.alloc (.cells #[.slice ao tn tc] 22)) (some ⟨w1.heap.size,0,none⟩) (Zd t ao tc) from by
  refine ⟨?_,?_⟩
  ·have:=(Blk.new w1 [.slice ao tn tc] 22).lies
   simpa [Zd,Str.val,HT.znr] using this
  ·intro s hs
   simp [Zd] at hs
   subst hs
   exact ⟨by rw [HT.znr];exact htc,(HLT.znr.below HB.znr).below (zD _ _)⟩)
 have HB:=znq (HB.znr.trans ((zD w1 (.cells #[.slice ao tn tc] 22)).mono HB.znr.size))
 generalize w1.alloc (.cells #[.slice ao tn tc] 22)=w2 at *
 refine (zci kp q p k (some ⟨w1.heap.size,0,none⟩) 1 1 (Zd t ao tc) bo n cb m false _ (HK.znr.later HB.znr) rfl (by omega) HSS.znr (by intro s hs;simp [Zd] at hs;subst hs;rw [HT.znr];exact ht1) HN.znr h1 h31 hcb (HL.znr.below HB.znr)).mono ?_
 rintro e w3 ⟨v3,rfl,hown,hbel⟩
 have HO:=znq (yi hown HB.znr.size)
 have HB:=znq (HB.znr.trans (hbel.mono HB.znr.size))
 clear hown hbel
 go_wp2
 go_ret2
 exact ⟨_,rfl,HO.znr,HB.znr⟩
theorem zc3 (kp q p:Nat) (k:zv) (ao:Option Addr) (tn tc:Nat) (t:List UInt8) (bo:Option Addr) (n cb:Nat) (m:List UInt8) (w:World) (hk:xH w kp q p k) (ht:t.length=tn) (ht1:tn≤10000) (htc:tn≤tc) (hlt:zr w ao (t.map B))
  (hn:m.length=n) (h1:1≤n) (h31:n≤20000) (hcb:n≤cb) (hl:zr w bo (m.map B)) :
  Calls Tryz.prog 203 #[.agg #[.pointer (some ⟨kp,0,none⟩)],.slice ao tn tc,.slice bo n cb] w fun e w'=>∃ v,e=.returned (.tuple #[v,.int .i64 0])∧w'.ownsRow w.heap.size 5 1 v n ((tK k [t] m true).map B)∧Below w.heap.size w w':=by
 have HK:=znq hk
 have HT:=znq ht
 have HLT:=znq hlt
 have HN:=znq hn
 have HL:=znq hl
 clear hk ht hlt hn hl
 go_enter Tryz.func203,Tryz.ntmps203
 go_wp2_with (refine zh 93 _ [.pointer (some ⟨kp,0,none⟩)] _ rfl rfl rfl rfl ?_)
 intro w1 hb hbel
 have HBK:=znq hb
 have HB:=znq hbel
 clear hb hbel
 go_wp2_with (refine HBK.znr.mP rfl rfl rfl jv rfl ?_)
 go_wp2_with fail
 have HSS:=znq (show xY (w1.alloc (.cells #[.slice ao tn tc] 22)) (some ⟨w1.heap.size,0,none⟩) (Zd t ao tc) from by
  refine ⟨?_,?_⟩
  ·have:=(Blk.new w1 [.slice ao tn tc] 22).lies
   simpa [Zd,Str.val,HT.znr] using this
  ·intro s hs
   simp [Zd] at hs
   subst hs
   exact ⟨by rw [HT.znr];exact htc,(HLT.znr.below HB.znr).below (zD _ _)⟩)
 have HB:=znq (HB.znr.trans ((zD w1 (.cells #[.slice ao tn tc] 22)).mono HB.znr.size))
 generalize w1.alloc (.cells #[.slice ao tn tc] 22)=w2 at *
 refine (zci kp q p k (some ⟨w1.heap.size,0,none⟩) 1 1 (Zd t ao tc) bo n cb m true _ (HK.znr.later HB.znr) rfl (by omega) HSS.znr (by intro s hs;simp [Zd] at hs;subst hs;rw [HT.znr];exact ht1) HN.znr h1 h31 hcb (HL.znr.below HB.znr)).mono ?_
 rintro e w3 ⟨v3,rfl,hown,hbel⟩
 have HO:=znq (yi hown HB.znr.size)
 have HB:=znq (HB.znr.trans (hbel.mono HB.znr.size))
 clear hown hbel
 go_wp2
 go_ret2
 exact ⟨_,rfl,HO.znr,HB.znr⟩
end Go.Proofs.YtjaioajjfiaheaaGreatDoor
namespace Go.Proofs.YtjaioajjfiaheaaGreatDoor
open RowKit Mem Ops Cells Oct Gf Trn Aes Ring Ezk Ezh Ezt Ezc Aez Blake ru Fl Wid
attribute [local irreducible] zE zN zO zM yu
theorem J2 (n:Nat) (w:World):Calls Tryz.prog 81 #[.int .i64 n] w fun e w'=>e=.returned (.bool (decide (n=16∨n=24∨n=32)))∧w=w':=by
 by_cases h1:n=16
 ·subst h1
  have e1:decide (16=16∨16=24∨16=32)=true:=rfl
  rw [e1]
  go_enter Tryz.func81,Tryz.ntmps81
  go_wp2
  go_ret
  exact ⟨rfl,rfl⟩
 ·have d1:((n:Int)==16)=false:=by simp;omega
  by_cases h2:n=24
  ·subst h2
   have e1:decide (24=16∨24=24∨24=32)=true:=rfl
   rw [e1]
   go_enter Tryz.func81,Tryz.ntmps81
   go_wp2
   go_ret
   exact ⟨rfl,rfl⟩
  ·have d2:((n:Int)==24)=false:=by simp;omega
   have e1:decide (n=16∨n=24∨n=32)=((n:Int)==32):=by
    by_cases h3:n=32
    ·subst h3;rfl
    ·have:((n:Int)==32)=false:=by simp;omega
     rw [this];simp;omega
   rw [e1]
   go_enter Tryz.func81,Tryz.ntmps81
   go_wp2
   go_ret
   exact ⟨rfl,rfl⟩
theorem J3 (ao:Option Addr) (n cap:Nat) (w:World):Calls Tryz.prog 44 #[.slice ao n cap] w fun e w'=>e=.returned (.bool (decide (0 < n∧n≤128)))∧w=w':=by
 by_cases h0:n=0
 ·subst h0
  have d1:decide (0 < 0∧0≤128)=false:=by decide
  rw [d1]
  go_enter Tryz.func44,Tryz.ntmps44
  go_wp2
  go_ret
  exact ⟨rfl,rfl⟩
 ·have d0:decide ((n:Int) > 0)=true:=by simp;omega
  by_cases h1:n≤128
  ·have d1:decide (0 < n∧n≤128)=true:=by simp;omega
   have d2:decide ((n:Int)≤128)=true:=by simp;omega
   rw [d1]
   go_enter Tryz.func44,Tryz.ntmps44
   go_wp2
   go_ret
   exact ⟨rfl,rfl⟩
  ·have d1:decide (0 < n∧n≤128)=false:=by simp;omega
   have d2:decide ((n:Int)≤128)=false:=by simp;omega
   rw [d1]
   go_enter Tryz.func44,Tryz.ntmps44
   go_wp2
   go_ret
   exact ⟨rfl,rfl⟩
theorem qb (alg:Int) (ao:Option Addr) (n cap:Nat) (w:World):Calls Tryz.prog 52 #[.int .i64 alg,.slice ao n cap] w fun e w'=>e=.returned (.int .i64 (ni alg n))∧w=w':=by
 by_cases h1:alg=1
 ·subst h1
  by_cases h2:n=32
  ·subst h2
   have e:ni 1 32=0:=rfl
   rw [e]
   go_enter Tryz.func52,Tryz.ntmps52
   go_wp2
   go_ret
   exact ⟨rfl,rfl⟩
  ·have e:ni 1 n=2:=by unfold ni;rw [if_pos rfl,if_neg h2]
   have d:((n:Int) != 32)=true:=by simp;omega
   rw [e]
   go_enter Tryz.func52,Tryz.ntmps52
   go_wp2
   go_ret
   exact ⟨rfl,rfl⟩
 ·by_cases h2:alg=2
  ·subst h2
   by_cases h3:n=16∨n=24∨n=32
   ·have e:ni 2 n=0:=by unfold ni;rw [if_neg (by omega),if_pos rfl,if_pos h3]
    have d:decide (n=16∨n=24∨n=32)=true:=by simpa using h3
    rw [e]
    clear h3
    go_enter Tryz.func52,Tryz.ntmps52
    go_wp2_with fail
    refine (J2 n _).mono ?_
    rintro e w1 ⟨rfl,rfl⟩
    rw [d]
    go_wp2
    go_ret
    exact ⟨rfl,rfl⟩
   ·have e:ni 2 n=2:=by unfold ni;rw [if_neg (by omega),if_pos rfl,if_neg h3]
    have d:decide (n=16∨n=24∨n=32)=false:=by simpa using h3
    rw [e]
    clear h3
    go_enter Tryz.func52,Tryz.ntmps52
    go_wp2_with fail
    refine (J2 n _).mono ?_
    rintro e w1 ⟨rfl,rfl⟩
    rw [d]
    go_wp2
    go_ret
    exact ⟨rfl,rfl⟩
  ·by_cases h3:alg=3
   ·subst h3
    by_cases h4:0 < n∧n≤128
    ·have e:ni 3 n=0:=by unfold ni;rw [if_neg (by omega),if_neg (by omega),if_pos rfl,if_pos h4]
     have d:decide (0 < n∧n≤128)=true:=by simpa using h4
     rw [e]
     clear h4
     go_enter Tryz.func52,Tryz.ntmps52
     go_wp2_with fail
     refine (J3 ao n cap _).mono ?_
     rintro e w1 ⟨rfl,rfl⟩
     rw [d]
     go_wp2
     go_ret
     exact ⟨rfl,rfl⟩
    ·have e:ni 3 n=2:=by unfold ni;rw [if_neg (by omega),if_neg (by omega),if_pos rfl,if_neg h4]
     have d:decide (0 < n∧n≤128)=false:=by simp;omega
     rw [e]
     clear h4
     go_enter Tryz.func52,Tryz.ntmps52
     go_wp2_with fail
     refine (J3 ao n cap _).mono ?_
     rintro e w1 ⟨rfl,rfl⟩
     rw [d]
     go_wp2
     go_ret
     exact ⟨rfl,rfl⟩
   ·have e:ni alg n=8:=by unfold ni;rw [if_neg h1,if_neg h2,if_neg h3]
    rw [e]
    by_cases h4:alg < 1
    ·have d:decide (alg < 1)=true:=by simp;omega
     go_enter Tryz.func52,Tryz.ntmps52
     go_wp2
     go_ret
     exact ⟨rfl,rfl⟩
    ·have d:decide (alg < 1)=false:=by simp;omega
     have d2:decide (alg > 3)=true:=by simp;omega
     go_enter Tryz.func52,Tryz.ntmps52
     go_wp2
     go_ret
     exact ⟨rfl,rfl⟩
end Go.Proofs.YtjaioajjfiaheaaGreatDoor
namespace Go.Wid
end Go.Wid
namespace Go.Proofs.YtjaioajjfiaheaaGreatDoor
open RowKit Mem Ops Cells Oct Gf Trn Aes Ring Ezk Ezh Ezt Ezc Aez Blake ru Fl Wid
attribute [local irreducible] zE zN zO zM yu
end Go.Proofs.YtjaioajjfiaheaaGreatDoor
namespace Go
def J5:Array Value→Sem Value:=fun args=>do
 let (x,y,b) ← Extern.MathBitsCarry.three "Sub64" args
 pure (Extern.MathBitsCarry.pair ((x+Extern.MathBitsCarry.m64 - y - b) % Extern.MathBitsCarry.m64) (if x < y+b then 1 else 0))
theorem zhs {P:Program} (x y k:Nat) (hk:k≤1) (w:World) :
  (J5 #[.int .u64 x,.int .u64 y,.int .u64 (k:Int)]).run P w =
   .ok (.tuple #[.int .u64 ((x+18446744073709551616 - y - k) % 18446744073709551616:Nat),.int .u64 ((if x < y+k then 1 else 0:Nat):Int)]) w:=by
 have:k=0∨k=1:=by omega
 rcases this with rfl | rfl <;> rfl
end Go
namespace Go.Adi
open Ops
theorem zmr (p q:UInt64×UInt64):(nY p q).1.toNat=(p.1.toNat+q.1.toNat) % 18446744073709551616:=by
 unfold nY
 rw [zf9]
 unfold nat
 omega
theorem zms (p q:UInt64×UInt64):(nY p q).2.toNat=(p.2.toNat+q.2.toNat+(p.1.toNat+q.1.toNat) / 18446744073709551616) % 18446744073709551616:=by
 unfold nY
 rw [zga]
 unfold nat
 omega
theorem zkj (p q:UInt64×UInt64):(qp p q).1.toNat=(p.1.toNat+18446744073709551616 - q.1.toNat) % 18446744073709551616:=by
 have h1:=p.1.toNat_lt
 have h2:=q.1.toNat_lt
 have h3:=p.2.toNat_lt
 have h4:=q.2.toNat_lt
 unfold qp
 rw [zf9]
 unfold nat
 omega
theorem zkk (p q:UInt64×UInt64):(qp p q).2.toNat=(p.2.toNat+18446744073709551616 - q.2.toNat - (if p.1.toNat < q.1.toNat then 1 else 0)) % 18446744073709551616:=by
 have h1:=p.1.toNat_lt
 have h2:=q.1.toNat_lt
 have h3:=p.2.toNat_lt
 have h4:=q.2.toNat_lt
 unfold qp
 rw [zga]
 unfold nat
 split <;> omega
end Go.Adi
namespace Go.Proofs.YtjaioajjfiaheaaGreatDoor
open RowKit Mem Ops Cells Oct Adi
attribute [local irreducible] zE zN zO zM
def zQ (p:UInt64×UInt64):List Value:=[L p.1,L p.2]
theorem zX (p:UInt64×UInt64):∀ v∈zQ p,v.oneCell'=true:=by
 intro v hv
 simp [zQ] at hv
 rcases hv with rfl | rfl <;> rfl
theorem zc4 (x y k:Nat) (hk:k≤1) (w:World):(callFunc 181 #[.int .u64 x,.int .u64 y,.int .u64 k]).run Tryz.prog w=.ok (.value (.tuple #[.int .u64 ((x+y+k) % 18446744073709551616:Nat),.int .u64 ((x+y+k) / 18446744073709551616:Nat)])) w:=by
 rw [run_callFunc_extern Tryz.func181 (by kernel_rfl) (by kernel_rfl) (by kernel_rfl) (e:=add64Entry) (by kernel_rfl),run_add64 x y k (by omega) (by omega) (by omega) (by omega)]
 simp
theorem zc5 (x y k:Nat) (hk:k≤1) (w:World):(callFunc 221 #[.int .u64 x,.int .u64 y,.int .u64 k]).run Tryz.prog w=.ok (.value (.tuple #[.int .u64 ((x+18446744073709551616 - y - k) % 18446744073709551616:Nat),.int .u64 ((if x < y+k then 1 else 0:Nat):Int)])) w:=by
 rw [run_callFunc_extern Tryz.func221 (by kernel_rfl) (by kernel_rfl) (by kernel_rfl) (e:=J5) (by kernel_rfl),zhs x y k hk]
 rfl
theorem J6 (p q:UInt64×UInt64) (w:World):Calls Tryz.prog 178 #[.agg (zQ p).toArray,.agg (zQ q).toArray] w fun e w'=>e=.returned (.agg (zQ (nY p q)).toArray)∧Below w.heap.size w w':=by
 obtain ⟨c,hc⟩:∃ c,c=(p.1.toNat+q.1.toNat) / 18446744073709551616:=⟨_,rfl⟩
 have hc1:c≤1:=by have:=p.1.toNat_lt;have:=q.1.toNat_lt;omega
 obtain ⟨d,hd⟩:∃ d,d=(p.2.toNat+q.2.toNat+c) / 18446744073709551616:=⟨_,rfl⟩
 have hr1:∀ w:World,(callFunc 181 #[.int .u64 p.1.toNat,.int .u64 q.1.toNat,.int .u64 0]).run Tryz.prog w=.ok (.value (.tuple #[.int .u64 (nY p q).1.toNat,.int .u64 c])) w:=fun w=>by
  have:=zc4 p.1.toNat q.1.toNat 0 (by omega) w
  rw [gG,← zmr,← hc] at this
  exact this
 have hr2:∀ w:World,(callFunc 181 #[.int .u64 p.2.toNat,.int .u64 q.2.toNat,.int .u64 c]).run Tryz.prog w=.ok (.value (.tuple #[.int .u64 (nY p q).2.toNat,.int .u64 d])) w:=fun w=>by
  have:=zc4 p.2.toNat q.2.toNat c hc1 w
  rw [← hd,hc,← zms,← hc] at this
  exact this
 obtain ⟨z,hz⟩:∃ z,z=nY p q:=⟨_,rfl⟩
 rw [← hz] at hr1 hr2 ⊢
 have HS:=znq (St.start w)
 clear hc hd hz
 go_enter Tryz.func178,Tryz.ntmps178
 go_wp2_with (refine zh 119 _ (zQ p) _ rfl rfl rfl rfl ?_)
 intro w1 hb hbel;have HS:=znq (HS.znr.push hb hbel);have hlt1:=hb.lt;clear hb hbel
 go_wp2_with (refine zh 119 _ (zQ q) _ rfl rfl rfl rfl ?_)
 intro w2 hb hbel;have HS:=znq (HS.znr.push hb hbel);have hlt2:=hb.lt;clear hb hbel
 go_wp2_with (refine ze 119 ([L 0,L 0]) _ rfl rfl zT rfl ?_)
 intro w3 hb hbel;have HS:=znq (HS.znr.push hb hbel);have hlt3:=hb.lt;clear hb hbel
 generalize hbb:w.heap.size=bb at *
 generalize w1.heap.size=b1 at *
 generalize w2.heap.size=b2 at *
 have HBB:=znq hbb
 clear hbb
 have hx0:=(HS.znr.get 2 rfl).cell 0 (L p.1) rfl
 have hx1:=(HS.znr.get 2 rfl).cell 1 (L p.2) rfl
 have hy0:=(HS.znr.get 1 rfl).cell 0 (L q.1) rfl
 have hy1:=(HS.znr.get 1 rfl).cell 1 (L q.2) rfl
 go_wp2_with (refine (HS.znr.get 0 rfl).mM rfl rfl rfl (cs:=zQ z) rfl zq rfl rfl (zX _) ?_)
 intro w4 hb ho
 have HE:=znq (zk HS.znr.bel ho (by omega))
 clear ho hx0 hx1 hy0 hy1
 go_wp2
 refine hb.result rfl rfl rfl zq rfl ⟨rfl,?_⟩
 rw [HBB.znr]
 exact HE.znr
theorem WB (p q:UInt64×UInt64) (w:World):Calls Tryz.prog 215 #[.agg (zQ p).toArray,.agg (zQ q).toArray] w fun e w'=>e=.returned (.agg (zQ (qp p q)).toArray)∧Below w.heap.size w w':=by
 obtain ⟨c,hc⟩:∃ c:Nat,c=(if p.1.toNat < q.1.toNat then 1 else 0):=⟨_,rfl⟩
 have hc1:c≤1:=by rw [hc];split <;> omega
 obtain ⟨d,hd⟩:∃ d:Nat,d=(if p.2.toNat < q.2.toNat+c then 1 else 0):=⟨_,rfl⟩
 have hr1:∀ w:World,(callFunc 221 #[.int .u64 p.1.toNat,.int .u64 q.1.toNat,.int .u64 0]).run Tryz.prog w=.ok (.value (.tuple #[.int .u64 (qp p q).1.toNat,.int .u64 c])) w:=fun w=>by
  have:=zc5 p.1.toNat q.1.toNat 0 (by omega) w
  simp only [Nat.sub_zero,gG] at this
  rw [← zkj,← hc] at this
  exact this
 have hr2:∀ w:World,(callFunc 221 #[.int .u64 p.2.toNat,.int .u64 q.2.toNat,.int .u64 c]).run Tryz.prog w=.ok (.value (.tuple #[.int .u64 (qp p q).2.toNat,.int .u64 d])) w:=fun w=>by
  have:=zc5 p.2.toNat q.2.toNat c hc1 w
  rw [← hd,hc,← zkk,← hc] at this
  exact this
 obtain ⟨z,hz⟩:∃ z,z=qp p q:=⟨_,rfl⟩
 rw [← hz] at hr1 hr2 ⊢
 have HS:=znq (St.start w)
 clear hc hd hz
 go_enter Tryz.func215,Tryz.ntmps215
 go_wp2_with (refine zh 119 _ (zQ p) _ rfl rfl rfl rfl ?_)
 intro w1 hb hbel;have HS:=znq (HS.znr.push hb hbel);have hlt1:=hb.lt;clear hb hbel
 go_wp2_with (refine zh 119 _ (zQ q) _ rfl rfl rfl rfl ?_)
 intro w2 hb hbel;have HS:=znq (HS.znr.push hb hbel);have hlt2:=hb.lt;clear hb hbel
 go_wp2_with (refine ze 119 ([L 0,L 0]) _ rfl rfl zT rfl ?_)
 intro w3 hb hbel;have HS:=znq (HS.znr.push hb hbel);have hlt3:=hb.lt;clear hb hbel
 generalize hbb:w.heap.size=bb at *
 generalize w1.heap.size=b1 at *
 generalize w2.heap.size=b2 at *
 have HBB:=znq hbb
 clear hbb
 have hx0:=(HS.znr.get 2 rfl).cell 0 (L p.1) rfl
 have hx1:=(HS.znr.get 2 rfl).cell 1 (L p.2) rfl
 have hy0:=(HS.znr.get 1 rfl).cell 0 (L q.1) rfl
 have hy1:=(HS.znr.get 1 rfl).cell 1 (L q.2) rfl
 go_wp2_with (refine (HS.znr.get 0 rfl).mM rfl rfl rfl (cs:=zQ z) rfl zq rfl rfl (zX _) ?_)
 intro w4 hb ho
 have HE:=znq (zk HS.znr.bel ho (by omega))
 clear ho hx0 hx1 hy0 hy1
 go_wp2
 refine hb.result rfl rfl rfl zq rfl ⟨rfl,?_⟩
 rw [HBB.znr]
 exact HE.znr
end Go.Proofs.YtjaioajjfiaheaaGreatDoor
namespace Go
open RowKit
section
variable {P:Program} {ops:Array Oper} {Q:Exit→Act→World→Prop} {md:Region.Mode} {R:World→World→Prop} {brk:List Nat}
theorem Xi (hrf:∀ a,R a a) {i:Nat} {oi:Oper} {v:Value} (hi:ops[i]? = some oi) (hsel:∀ (j:Nat) (o:Oper) cs b,ops[j]? = some o→o.op≠.select cs b)
  (hQ:∀ c a w,Q (.panic c) (a.put oi.dst v) w→Q (.panic c) a w) (D:Nat→Bool) (hDi:D i=false)
  (hD:∀ d,D d=true→∃ od,ops[d]? = some od∧∃ e∈od.after,Region.binds md e=true∧(e.on=i∨D e.on=true)) :
  ∀ (fuel:Nat) (listed:Array Bool) (a:Act) (w:World),
   (∀ d,D d=true→listed.getD d true=false) →
   (∀ j oj,ops[j]? = some oj→j≠i→listed.getD j true=false→D j=false→oi.apart ops oj=true) →
   i∈Region.ready md ops listed→YieldsIf P ops (fun _=>True) oi v a →
   qj R brk P md ops Q fuel (listed.setIfInBounds i true) (a.put oi.dst v) w→qj R brk P md ops Q (fuel+1) listed a w:=by
 intro fuel
 induction fuel with
 | zero =>
  intro listed a w _ _ hr hy H
  refine ⟨fun h=>(by rw [h] at hr;cases hr),fun j hj=>?_⟩
  by_cases hji:j=i
  ·subst hji;exact hy.wpOp hi trivial ⟨fun _=>hrf w,H⟩
  ·have:=ready_mono hj hji
   rw [H.1] at this
   cases this
 | succ fuel ih =>
  intro listed a w hun hfree hr hy H
  refine ⟨fun h=>(by rw [h] at hr;cases hr),fun j hj=>?_⟩
  by_cases hji:j=i
  ·subst hji;exact hy.wpOp hi trivial ⟨fun _=>hrf w,H⟩
  ·have h1:=H.2 j (ready_mono hj hji)
   obtain ⟨hjun,oj,hoj,hall⟩:=mem_ready.1 hj
   have hget:∀ k,listed.getD k true=false→(listed[k]?).getD true=false:=fun k hk=>by
    rcases bg k listed.size with h' | h'
    ·simpa [gU,h'] using hk
    ·simp [gU,Nat.not_lt.2 h'] at hk
   have hDj:D j=false:=by
    cases hdj:D j with
    | false=>rfl
    | true =>
     obtain ⟨od,hod,e,he,hb,hon⟩:=hD j hdj
     rw [hoj] at hod
     cases hod
     have h1:=hall e he hb
     have h0:listed.getD e.on true=false:=by
      rcases hon with h | h
      ·rw [h];exact (mem_ready.1 hr).1
      ·exact hun _ h
     rcases bg e.on listed.size with h' | h'
     ·simp [h'] at h0 h1;rw [h0] at h1;cases h1
     ·simp [Array.getElem?_eq_none h'] at h1
   have hfj:=hfree j oj hoj hji hjun hDj
   have h2:=wpOp_putIf hoj hfj (fun cs b=>hsel i oi cs b hi) (fun cs b=>hsel j oj cs b hoj) hQ hy h1
   have hun':∀ d,D d=true→(listed.setIfInBounds j true).getD d true=false:=fun d hd=>by
    have hne:j≠d:=by rintro rfl;rw [hDj] at hd;cases hd
    rw [getD_set_ne true hne]
    exact hun d hd
   have hfree':∀ k ok,ops[k]? = some ok→k≠i→(listed.setIfInBounds j true).getD k true=false →
     D k=false→oi.apart ops ok=true:=fun k ok hk hki hun hno=>by
    refine hfree k ok hk hki ?_ hno
    by_cases hjk:j=k
    ·subst hjk;exact hjun
    ·rw [getD_set_ne true hjk] at hun;exact hun
   refine wpOp_mono (fun a' w' h3=>⟨h3.2.1,ih (listed.setIfInBounds j true) a' w' hun' hfree' (ready_mono hr (Ne.symm hji)) h3.1 ?_⟩) h2
   rw [Array.setIfInBounds_comm _ _ hji]
   exact h3.2.2
def Region.checkN (brk:List Nat) (md:Region.Mode) (ops:Array Oper):List (Nat×Nat)→Array Bool→Bool
 | [],listed=>Region.ready md ops listed==[]
 | (i,q)::r,listed =>
  (match ops[i]? with
   | none=>false
   | some _=>if q=2 then (Region.ready md ops listed).contains i && Region.zbD [] md ops listed i
    else if q=1 then (Region.ready md ops listed).contains i && Region.zbD brk md ops listed i else Region.ready md ops listed==[i]) &&
  Region.checkN brk md ops r (listed.setIfInBounds i true)
def yJ (R:World→World→Prop) (brk:List Nat) (P:Program) (ops:Array Oper) (Q:Exit→Act→World→Prop):List (Nat×Nat)→Act→World→Prop
 | [],a,w=>Q .normal a w
 | (i,q)::r,a,w =>
  match ops[i]? with
  | none=>False
  | some o =>
   if Region.wanted o (yielded ops a.tmps)=true then
    (if q=2 then ∃ v,(∀ w',(execOp a.eval o).run P w'=.ok (.value v) w')∧yJ R brk P ops Q r (a.put o.dst v) w
     else if q=1 then ∃ v,(∀ w',R w w'→(execOp a.eval o).run P w'=.ok (.value v) w')∧yJ R brk P ops Q r (a.put o.dst v) w
     else o.wp P a w (fun a' w'=>(brk.contains i=false→R w w')∧yJ R brk P ops Q r a' w') Q)
   else yJ R brk P ops Q r (a.put o.dst undef) w
theorem xh (hrf:∀ a,R a a) (ht:∀ a b c,R a b→R b c→R a c) (hs:Region.noSelect ops=true) (hQ:∀ c a w,¬ Q (.panic c) a w):∀ (order:List (Nat×Nat)) (listed:Array Bool) (a:Act) (w:World),
  Region.checkN brk md ops order listed=true→yJ R brk P ops Q order a w→qj R brk P md ops Q order.length listed a w
 | [],listed,a,w,hB,h=>by
  simp only [Region.checkN,beq_iff_eq] at hB
  exact ⟨hB,h⟩
 | (i,q)::r,listed,a,w,hB,h=>by
  simp only [Region.checkN,Bool.and_eq_true] at hB
  obtain ⟨hB1,hB2⟩:=hB
  cases ho:ops[i]? with
  | none=>simp [ho] at hB1
  | some o =>
   simp only [ho] at hB1
   simp only [yJ,ho] at h
   by_cases q2:q=2
   ·simp only [q2,if_true,Bool.and_eq_true] at hB1 h
    obtain ⟨D,hDi,hD,hDu,hDf⟩:=Region.pV ho hB1.2
    have hDf':∀ j oj,ops[j]? = some oj→j≠i→listed.getD j true=false→D j=false→o.apart ops oj=true:=fun j oj h1 h2 h3 h4=>(hDf j oj h1 h2 h3 h4).1
    by_cases hw:Region.wanted o (yielded ops a.tmps)=true
    ·rw [if_pos hw] at h
     obtain ⟨v,hv,hr⟩:=h
     exact Xi hrf ho (Region.noSelect_spec hs) (fun c a w hq=>absurd hq (hQ _ _ _)) D hDi hD r.length listed a w hDu hDf' (by simpa using hB1.1) (.inl ⟨hw,fun w' _=>hv w'⟩)
      (xh hrf ht hs hQ r _ _ _ hB2 hr)
    ·rw [if_neg hw] at h
     exact Xi hrf ho (Region.noSelect_spec hs) (fun c a w hq=>absurd hq (hQ _ _ _)) D hDi hD r.length listed a w hDu hDf' (by simpa using hB1.1) (.inr ⟨by simpa using hw,rfl⟩)
      (xh hrf ht hs hQ r _ _ _ hB2 h)
   ·simp only [if_neg q2] at hB1 h
    by_cases q1:q=1
    ·simp only [q1,if_true,Bool.and_eq_true] at hB1 h
     obtain ⟨D,hDi,hD,hDu,hDf⟩:=Region.pV ho hB1.2
     by_cases hw:Region.wanted o (yielded ops a.tmps)=true
     ·rw [if_pos hw] at h
      obtain ⟨v,hv,hr⟩:=h
      exact qW hrf ht ho (Region.noSelect_spec hs) (fun c a w hq=>absurd hq (hQ _ _ _)) D hDi hD r.length listed a w hDu hDf (by simpa using hB1.1) (.inl ⟨hw,hv⟩)
       (xh hrf ht hs hQ r _ _ _ hB2 hr)
     ·rw [if_neg hw] at h
      exact qW hrf ht ho (Region.noSelect_spec hs) (fun c a w hq=>absurd hq (hQ _ _ _)) D hDi hD r.length listed a w hDu hDf (by simpa using hB1.1) (.inr ⟨by simpa using hw,rfl⟩)
       (xh hrf ht hs hQ r _ _ _ hB2 h)
    ·simp only [if_neg q1,beq_iff_eq] at hB1 h
     refine ⟨fun h0=>(by rw [hB1] at h0;cases h0),fun j hj=>?_⟩
     rw [hB1] at hj
     obtain rfl:j=i:=by simpa using hj
     unfold wpOp
     simp only [ho]
     by_cases hw:Region.wanted o (yielded ops a.tmps)=true
     ·rw [if_pos hw] at h ⊢
      refine .inl (Oper.wp_mono ?_ h)
      intro a' w' h'
      refine ⟨h'.1,xh hrf ht hs hQ r _ _ _ hB2 h'.2⟩
     ·rw [if_neg hw] at h ⊢
      exact ⟨fun _=>hrf w,xh hrf ht hs hQ r _ _ _ hB2 h⟩
theorem kW {id:Nat} {l:List Oper} {a:Act} {w:World} (R:World→World→Prop) (brk:List Nat) (order:List (Nat×Nat)) (hrf:∀ a,R a a) (ht:∀ a b c,R a b→R b c→R a c) (hm:P.follows .mixedOrders=true)
  (hB:(Region.noSelect l.toArray && (order.length==l.length) && Region.checkN brk .any l.toArray order (Array.replicate l.length false))=true)
  (h:∀ w',w'=w.drew→yJ R brk P l.toArray (NoPanic Q) order a w'):(Code.region id l.toArray true).wp P Q a w:=by
 simp only [Bool.and_eq_true,beq_iff_eq] at hB
 obtain ⟨⟨hs,hl⟩,hB⟩:=hB
 refine wp_region_noPanic (wp_region_any hm (ZD (R:=R) (brk:=brk) _ _ _ _ ?_))
 have:=xh (R:=R) (brk:=brk) (P:=P) (Q:=NoPanic Q) hrf ht hs (fun c a w hq=>hq) order _ a w.drew hB (h _ rfl)
 rw [hl] at this
 exact this
theorem jA {a:Act} {w:World} (h:Q .normal a w):yJ R brk P ops (NoPanic Q) [] a w:=h
theorem yS {i:Nat} {r:List (Nat×Nat)} {o:Oper} {a:Act} {w:World} (ho:ops[i]? = some o) (hw:Region.wanted o (yielded ops a.tmps)=true)
  (h:∀ K:Act→World→Prop,(∀ a' w',(brk.contains i=false→R w w')→yJ R brk P ops Q r a' w'→K a' w')→o.wp P a w K Q):yJ R brk P ops Q ((i,0)::r) a w:=by
 simp only [yJ,ho,hw,if_true,if_neg (show ¬ (0=2) by omega),if_neg (show ¬ (0=1) by omega)]
 exact h _ fun _ _ h1 h2=>⟨h1,h2⟩
theorem zbQ {i:Nat} {r:List (Nat×Nat)} {o:Oper} {tl:List Oper} {a:Act} {w:World} (hd:ops.toList.drop i=o::tl) (hk:o.nR=0)
  (hh:∀ K:Act→Prop,(∀ a',yJ R brk P ops Q r a' w→K a')→wpQuiet P ops (KJ R w) K [o] a):yJ R brk P ops Q ((i,1)::r) a w:=by
 have h:=hh (fun a'=>yJ R brk P ops Q r a' w) (fun _ h=>h)
 have ho:ops[i]? = some o:=by
  have:=congrArg (·[0]?) hd
  simpa using this
 simp only [wpQuiet] at h
 simp only [yJ,ho,if_neg (show ¬ (1=2) by omega),if_true]
 by_cases hw:Region.wanted o (yielded ops a.tmps)=true
 ·rw [if_pos hw] at h ⊢
  obtain ⟨v,hv,hn⟩:=h
  exact ⟨v,fun w' hw'=>xv hk (hv w' ⟨⟨w',hw'⟩,rfl⟩),hn⟩
 ·rw [if_neg hw] at h ⊢
  exact h
theorem za3 {i:Nat} {r:List (Nat×Nat)} {o:Oper} {tl:List Oper} {a:Act} {w:World} (hd:ops.toList.drop i=o::tl) (hk:o.nR=0)
  (hh:∀ K:Act→Prop,(∀ a',yJ R brk P ops Q r a' w→K a')→wpQuiet P ops (KJ (fun _ _=>True) w) K [o] a):yJ R brk P ops Q ((i,2)::r) a w:=by
 have h:=hh (fun a'=>yJ R brk P ops Q r a' w) (fun _ h=>h)
 have ho:ops[i]? = some o:=by
  have:=congrArg (·[0]?) hd
  simpa using this
 simp only [wpQuiet] at h
 simp only [yJ,ho,if_true]
 by_cases hw:Region.wanted o (yielded ops a.tmps)=true
 ·rw [if_pos hw] at h ⊢
  obtain ⟨v,hv,hn⟩:=h
  exact ⟨v,fun w'=>xv hk (hv w' ⟨⟨w',trivial⟩,rfl⟩),hn⟩
 ·rw [if_neg hw] at h ⊢
  exact h
instance (w:World):Nonempty (xR (fun _ _=>True) w):=⟨⟨w,trivial⟩⟩
end
end Go
namespace Go.Proofs.YtjaioajjfiaheaaGreatDoor
open RowKit Mem Ops Cells Oct Trn Cha
attribute [local irreducible] zE zN zO zM yJ
theorem yW:Row Tryz.prog 242 16:=⟨by kernel_rfl,by kernel_rfl⟩
theorem zao {fn:Func} {t u v x:Tmp} (h:fn.results=#[.tmp t,.tmp u,.tmp v,.tmp x]) (tmps:Array Value) (P:Program) (w:World) :
  (results fn tmps).run P w=.ok (.tuple #[tmps.getD t undef,tmps.getD u undef,tmps.getD v undef,tmps.getD x undef]) w:=by
 simp [results,h]
def zkl (n:Nat):Prop:=n=16∨n=12∨n=8∨n=7
theorem zkm (x:UInt32) (n:Nat) (w:World) (hn:zkl n):Calls Tryz.prog 186 #[W x,.int .i64 n] w fun e w'=>e=.returned (W (zf2 x n))∧w=w':=by
 rcases hn with rfl | rfl | rfl | rfl
 ·show Calls _ _ #[W x,.int .i64 16] w _
  have hz2:bits .and .u64 16 31=16:=by decide
  go_enter Tryz.func186,Tryz.ntmps186
  go_wp2
  go_ret
  exact ⟨rfl,rfl⟩
 ·show Calls _ _ #[W x,.int .i64 12] w _
  have hz2:bits .and .u64 12 31=12:=by decide
  go_enter Tryz.func186,Tryz.ntmps186
  go_wp2
  go_ret
  exact ⟨rfl,rfl⟩
 ·show Calls _ _ #[W x,.int .i64 8] w _
  have hz2:bits .and .u64 8 31=8:=by decide
  go_enter Tryz.func186,Tryz.ntmps186
  go_wp2
  go_ret
  exact ⟨rfl,rfl⟩
 ·show Calls _ _ #[W x,.int .i64 7] w _
  have hz2:bits .and .u64 7 31=7:=by decide
  go_enter Tryz.func186,Tryz.ntmps186
  go_wp2
  go_ret
  exact ⟨rfl,rfl⟩
theorem KP (a b d:UInt32) (n:Nat) (w:World) (hn:zkl n):Calls Tryz.prog 184 #[W a,W b,W d,.int .i64 n] w fun e w'=>e=.returned (.tuple #[W (jI a b),W (zf2 (y6 d (jI a b)) n)])∧w=w':=by
 have HN:=znq hn
 clear hn
 go_enter Tryz.func184,Tryz.ntmps184
 go_wp2_with fail
 refine (zkm _ n _ HN.znr).mono ?_
 rintro e w1 ⟨rfl,rfl⟩
 go_wp2
 go_ret2
 exact ⟨rfl,rfl⟩
def zkn (f:zac):Array Value:=#[W f.a,W f.b,W f.c,W f.d]
theorem ze4 (f:zac) (w:World):Calls Tryz.prog 180 (zkn f) w fun e w'=>e=.returned (.tuple (zkn (quarter f)))∧w=w':=by
 obtain ⟨a,b,c,d⟩:=f
 show Calls _ _ #[W a,W b,W c,W d] w _
 obtain ⟨g1,h1⟩:∃ g,g=q1 ⟨a,b,c,d⟩ 16:=⟨_,rfl⟩
 obtain ⟨g2,h2⟩:∃ g,g=q2 g1 12:=⟨_,rfl⟩
 obtain ⟨g3,h3⟩:∃ g,g=q1 g2 8:=⟨_,rfl⟩
 obtain ⟨g4,h4⟩:∃ g,g=q2 g3 7:=⟨_,rfl⟩
 have HE:=znq (show quarter ⟨a,b,c,d⟩=g4∧True from ⟨by rw [h4,h3,h2,h1];rfl,trivial⟩)
 obtain ⟨a1,b1,c1,d1⟩:=g1
 obtain ⟨a2,b2,c2,d2⟩:=g2
 obtain ⟨a3,b3,c3,d3⟩:=g3
 obtain ⟨a4,b4,c4,d4⟩:=g4
 simp only [q1,q2,zac.mk.injEq] at h1 h2 h3 h4
 have H1:=znq (And.intro h1 trivial)
 have H2:=znq (And.intro h2 trivial)
 have H3:=znq (And.intro h3 trivial)
 have H4:=znq (And.intro h4 trivial)
 clear h1 h2 h3 h4
 go_enter Tryz.func180,Tryz.ntmps180
 go_wp2_with fail
 refine (KP a b d 16 _ (.inl rfl)).mono ?_
 rintro e w1 ⟨rfl,rfl⟩
 rw [← H1.znr.1.2.2.2,← H1.znr.1.1]
 go_wp2_with fail
 refine (KP c d1 b 12 _ (.inr (.inl rfl))).mono ?_
 rintro e w1 ⟨rfl,rfl⟩
 obtain ⟨rfl,rfl⟩:b1=b∧c1=c:=⟨H1.znr.1.2.1,H1.znr.1.2.2.1⟩
 rw [← H2.znr.1.2.1,← H2.znr.1.2.2.1]
 go_wp2_with fail
 obtain ⟨rfl,rfl⟩:a2=a1∧d2=d1:=⟨H2.znr.1.1,H2.znr.1.2.2.2⟩
 refine (KP a2 b2 d2 8 _ (.inr (.inr (.inl rfl)))).mono ?_
 rintro e w1 ⟨rfl,rfl⟩
 rw [← H3.znr.1.2.2.2,← H3.znr.1.1]
 go_wp2_with fail
 obtain ⟨rfl,rfl⟩:b3=b2∧c3=c2:=⟨H3.znr.1.2.1,H3.znr.1.2.2.1⟩
 refine (KP c3 d3 b3 7 _ (.inr (.inr (.inr rfl)))).mono ?_
 rintro e w1 ⟨rfl,rfl⟩
 rw [← H4.znr.1.2.1,← H4.znr.1.2.2.1]
 go_wp2
 (try simp only [Exit.inBlock,Exit.then])
 refine bodyPost_ret (zao rfl _ _ _) rfl ?_
 rw [HE.znr.1]
 obtain ⟨rfl,rfl⟩:a4=a3∧d4=d3:=⟨H4.znr.1.1,H4.znr.1.2.2.2⟩
 exact ⟨rfl,rfl⟩
instance (w:World):Nonempty (xR (fun u v=>Below u.heap.size u v) w):=⟨⟨w,Below.refl _ _⟩⟩
theorem J7 (pv y:Nat) (vs:List UInt32) (w:World) (hb:Blk w pv (vs.map W) 242) (hl:vs.length=16) (hy:y < 2) :
  Calls Tryz.prog 176 #[.pointer (some ⟨pv,0,none⟩),.int .i64 y] w fun e w'=>(∃ v,e=.returned v)∧Blk w' pv ((jd y vs 4).map W) 242∧Only pv w w':=by
 have HB:=znq hb
 have HL:=znq (show vs.length=16∧True from ⟨hl,trivial⟩)
 have HO:=znq (Only.refl pv w)
 have m2:IntKind.i64.wrap (2*(y:Int))=2*(y:Int):=IntWalk.i64_in _ (by omega)
 have m3:IntKind.i64.wrap (3*(y:Int))=3*(y:Int):=IntWalk.i64_in _ (by omega)
 clear hb hl
 go_enter Tryz.func176,Tryz.ntmps176
 go_wp2
 go_loopw [8] (fun c wr=>∃ (i:Nat),i≤4∧c=.int .i64 i∧Hid (Blk wr pv ((jd y vs i).map W) 242)∧Hid (Only pv w wr)) (fun c _=>4 - (intOf c).toNat)
 case atStart=>exact ⟨0,by omega,rfl,HB,HO⟩
 case round =>
  clear HB HO
  obtain ⟨i,hi,rfl,HB,HO⟩:=hrel
  by_cases hlt:i < 4
  ·obtain ⟨r1,hr1⟩:∃ r1,r1=(i+y) % 4:=⟨_,rfl⟩
   obtain ⟨r2,hr2⟩:∃ r1,r1=(i+2*y) % 4:=⟨_,rfl⟩
   obtain ⟨r3,hr3⟩:∃ r1,r1=(i+3*y) % 4:=⟨_,rfl⟩
   obtain ⟨b1,hb1⟩:∃ r,r=4+r1:=⟨_,rfl⟩
   obtain ⟨b2,hb2⟩:∃ r,r=8+r2:=⟨_,rfl⟩
   obtain ⟨b3,hb3⟩:∃ r,r=12+r3:=⟨_,rfl⟩
   have e1:((i:Int)+(y:Int)) % 4=(r1:Int):=by omega
   have e2:((i:Int)+2*(y:Int)) % 4=(r2:Int):=by omega
   have e3:((i:Int)+3*(y:Int)) % 4=(r3:Int):=by omega
   have f1:(4:Int)+(r1:Int)=(b1:Int):=by omega
   have f2:(8:Int)+(r2:Int)=(b2:Int):=by omega
   have f3:(12:Int)+(r3:Int)=(b3:Int):=by omega
   obtain ⟨us,hus⟩:∃ us,us=jd y vs i:=⟨_,rfl⟩
   have HE:=znq (show jd y vs (i+1)=Zp us i b1 b2 b3∧True from ⟨by rw [hb1,hb2,hb3,hr1,hr2,hr3,hus];rfl,trivial⟩)
   have HL1:=znq (show us.length=16∧True from ⟨by rw [hus,qT];exact HL.znr.1,trivial⟩)
   have g1:b1 < 16:=by omega
   have g2:b2 < 16:=by omega
   have g3:b3 < 16:=by omega
   rw [← hus] at HB
   clear hus hb1 hb2 hb3 hr1 hr2 hr3
   obtain ⟨f,hf⟩:∃ f,f=quarter ⟨yR us i,yR us b1,yR us b2,yR us b3⟩:=⟨_,rfl⟩
   have HF:=znq (show quarter ⟨yR us i,yR us b1,yR us b2,yR us b3⟩=f∧True from ⟨hf.symm,trivial⟩)
   have HQ:=znq (show Zp us i b1 b2 b3=(((us.set i f.a).set b1 f.b).set b2 f.c).set b3 f.d∧True from ⟨by rw [hf];rfl,trivial⟩)
   clear hf
   have hc0:=fun (x:xR (fun u v=>Below u.heap.size u v) wr.drew)=>(HB.znr.drew.below x.rel HB.znr.drew.lt).cell i _ (kz (qO (l:=us) (i:=i) (by rw [HL1.znr.1];omega)))
   have hc1:=fun (x:xR (fun u v=>Below u.heap.size u v) wr.drew)=>(HB.znr.drew.below x.rel HB.znr.drew.lt).cell b1 _ (kz (qO (l:=us) (i:=b1) (by rw [HL1.znr.1];omega)))
   have hc2:=fun (x:xR (fun u v=>Below u.heap.size u v) wr.drew)=>(HB.znr.drew.below x.rel HB.znr.drew.lt).cell b2 _ (kz (qO (l:=us) (i:=b2) (by rw [HL1.znr.1];omega)))
   have hc3:=fun (x:xR (fun u v=>Below u.heap.size u v) wr.drew)=>(HB.znr.drew.below x.rel HB.znr.drew.lt).cell b3 _ (kz (qO (l:=us) (i:=b3) (by rw [HL1.znr.1];omega)))
   go_wp2_with fail
   refine kW (fun u v=>Below u.heap.size u v) [36,39,42,45] [(0,2),(1,2),(2,2),(3,2),(4,2),(5,2),(6,2),(7,2),(8,2),(9,2),(10,2),(11,2),(12,1),(13,2),(14,2),(15,2),(16,2),(17,1),(18,2),(19,2),(20,2),(21,2),(22,1),(23,2),(24,2),(25,2),(26,2),(27,1),(34,2),(37,2),(40,2),(43,2),(28,0),(29,2),(30,2),(31,2),(32,2),(33,2),(35,2),(36,0),(38,2),(39,0),(41,2),(42,0),(44,2),(45,0)] (fun a=>Below.refl _ a) (fun _ _ _ h1 h2=>h1.trans (h2.mono h1.size)) (by kernel_rfl) (by kernel_rfl) ?_
   rintro w1 rfl
   have HB:=znq HB.znr.drew
   have HO:=znq (Zm HO.znr)
   refine mqN ?_
   clear hc0 hc1 hc2 hc3
   refine yS rfl (by rfl) (fun K hK=>?_)
   go_simp
   refine (ze4 ⟨yR us i,yR us b1,yR us b2,yR us b3⟩ _).mono ?_
   rintro e w2 ⟨rfl,rfl⟩
   rw [HF.znr.1]
   unfold zkn
   go_simp
   refine hK _ _ (fun _=>Below.refl _ _) ?_
   clear hK K
   refine mqN ?_
   refine yS rfl (by rfl) (fun K hK=>?_)
   refine HB.znr.nO (v:=W f.a) rfl rfl rfl yt rfl rfl (by rw [yf,HL1.znr.1];omega) (fun w2 hb2 ho2=>hK _ _ (fun h=>by cases h) ?_)
   clear hK K
   rw [xI] at hb2
   have HB:=znq hb2
   have HO:=znq (HO.znr.trans ho2)
   clear hb2 ho2
   go_simp
   refine mqN ?_
   refine yS rfl (by rfl) (fun K hK=>?_)
   refine HB.znr.nO (v:=W f.b) rfl rfl rfl yt rfl rfl (by rw [yf,Vo,HL1.znr.1];omega) (fun w2 hb2 ho2=>hK _ _ (fun h=>by cases h) ?_)
   clear hK K
   rw [xI] at hb2
   have HB:=znq hb2
   have HO:=znq (HO.znr.trans ho2)
   clear hb2 ho2
   go_simp
   refine mqN ?_
   refine yS rfl (by rfl) (fun K hK=>?_)
   refine HB.znr.nO (v:=W f.c) rfl rfl rfl yt rfl rfl (by rw [yf,Vo,Vo,HL1.znr.1];omega) (fun w2 hb2 ho2=>hK _ _ (fun h=>by cases h) ?_)
   clear hK K
   rw [xI] at hb2
   have HB:=znq hb2
   have HO:=znq (HO.znr.trans ho2)
   clear hb2 ho2
   go_simp
   refine mqN ?_
   refine yS rfl (by rfl) (fun K hK=>?_)
   refine HB.znr.nO (v:=W f.d) rfl rfl rfl yt rfl rfl (by rw [yf,Vo,Vo,Vo,HL1.znr.1];omega) (fun w2 hb2 ho2=>hK _ _ (fun h=>by cases h) ?_)
   clear hK K
   rw [xI,← HQ.znr.1,← HE.znr.1] at hb2
   have HB:=znq hb2
   have HO:=znq (HO.znr.trans ho2)
   clear hb2 ho2
   go_simp
   refine jA ?_
   go_wp2
   go_roundw
   case rel=>exact ⟨i+1,by omega,by go_num,HB,HO⟩
   case measure=>simp [intOf];omega
  ·obtain rfl:i=4:=by omega
   go_wp2
   go_end0
   exact ⟨⟨_,rfl⟩,HB.znr,HO.znr⟩
end Go.Proofs.YtjaioajjfiaheaaGreatDoor
namespace Go.Proofs.YtjaioajjfiaheaaGreatDoor
open RowKit Mem Ops Cells Oct Trn Cha
attribute [local irreducible] zE zN zO zM yJ
theorem qt:(Tryz.prog.info? 242).map (·.zero)=some (some (.agg ((wh 16 (0:UInt32)).map W).toArray)):=by kernel_rfl
theorem yT (l:List UInt32):∀ v∈l.map W,v.oneCell'=true:=by
 intro v hv
 obtain ⟨x,_,rfl⟩:=ug.1 hv
 rfl
def YX (r:Nat):Prop:=r=8∨r=12∨r=20
theorem zc6 (r:Nat) (w:World) (hr:YX r):Calls Tryz.prog 166 #[.int .i64 r] w fun e w'=>e=.returned (.int .i64 0)∧w=w':=by
 rcases hr with rfl | rfl | rfl
 ·go_enter Tryz.func166,Tryz.ntmps166
  go_wp2
  go_ret
  exact ⟨rfl,rfl⟩
 ·go_enter Tryz.func166,Tryz.ntmps166
  go_wp2
  go_ret
  exact ⟨rfl,rfl⟩
 ·go_enter Tryz.func166,Tryz.ntmps166
  go_wp2
  go_ret
  exact ⟨rfl,rfl⟩
theorem zc7 (vs:List UInt32) (r:Nat) (w:World) (hl:vs.length=16) (hr:YX r) :
  Calls Tryz.prog 168 #[.agg (vs.map W).toArray,.int .i64 r] w fun e w'=>e=.returned (.agg ((xQ vs (r / 2)).map W).toArray)∧Below w.heap.size w w':=by
 have HL:=znq (show vs.length=16∧True from ⟨hl,trivial⟩)
 have HS:=znq (St.start w)
 obtain ⟨h,hh⟩:∃ h,h=r / 2:=⟨_,rfl⟩
 have hd:(r:Int).tdiv 2=(h:Int):=by rw [Int.tdiv_eq_ediv_of_nonneg (by omega)];omega
 have hb:h≤10:=by unfold YX at hr;omega
 rw [← hh]
 clear hh hr hl
 go_enter Tryz.func168,Tryz.ntmps168
 go_wp2_with (refine zh 242 _ (vs.map W) _ rfl rfl rfl rfl ?_)
 intro w1 hb hbel;have HS:=znq (HS.znr.push hb hbel);have hlt1:=hb.lt;clear hb hbel
 go_wp2_with (refine ze 242 ((wh 16 (0:UInt32)).map W) _ rfl rfl qt rfl ?_)
 intro w2 hb hbel;have HS:=znq (HS.znr.push hb hbel);have hlt2:=hb.lt;clear hb hbel
 generalize hbb:w.heap.size=bb at *
 generalize w1.heap.size=b1 at *
 have HBB:=znq hbb
 clear hbb
 go_wp2
 go_loopw [7] (fun c wr=>∃ (i:Nat),i≤h∧c=.int .i64 i∧Hid (St w bb wr [(b1,(wh 16 (0:UInt32)).map W,242),(bb,(xQ vs i).map W,242)])) (fun c _=>h - (intOf c).toNat)
 case atStart=>exact ⟨0,by omega,rfl,HS⟩
 case round =>
  clear HS
  obtain ⟨i,hi,rfl,HS⟩:=hrel
  by_cases hlt:i < h
  ·have HM:=znq (show (xQ vs i).length=16∧True from ⟨by rw [zio];exact HL.znr.1,trivial⟩)
   have HM2:=znq (show (jd 0 (xQ vs i) 4).length=16∧True from ⟨by rw [qT];exact HM.znr.1,trivial⟩)
   go_wp2_with fail
   refine (J7 bb 0 (xQ vs i) _ (HS.znr.get 1 rfl) HM.znr.1 (by omega)).mono ?_
   rintro e w3 ⟨⟨v3,rfl⟩,hb3,ho3⟩
   have HS:=znq (HS.znr.change 1 hb3 ho3 (by omega) (by simp;omega))
   clear hb3 ho3
   go_wp2_with fail
   refine (J7 bb 1 (jd 0 (xQ vs i) 4) _ (HS.znr.get 1 rfl) HM2.znr.1 (by omega)).mono ?_
   rintro e w4 ⟨⟨v4,rfl⟩,hb4,ho4⟩
   have HS:=znq (HS.znr.change 1 hb4 ho4 (by omega) (by simp;omega))
   clear hb4 ho4
   go_wp2
   go_roundw
   case rel=>exact ⟨i+1,by omega,by go_num,HS⟩
   case measure=>simp [intOf];omega
  ·obtain rfl:h=i:=by omega
   have HM:=znq (show (xQ vs h).length=16∧True from ⟨by rw [zio];exact HL.znr.1,trivial⟩)
   go_wp2_with (first | (refine (HS.znr.get 1 rfl).mP rfl rfl rfl yW (by rw [yf];exact HM.znr.1) ?_) | (refine (HS.znr.get 0 rfl).mM rfl rfl rfl (cs:=(xQ vs h).map W) rfl yW rfl (by rw [yf];exact HM.znr.1) (yT _) ?_))
   intro w5 hb5 ho5
   have HE:=znq (zk HS.znr.bel ho5 (by omega))
   clear ho5
   go_wp2
   refine hb5.result rfl rfl rfl yW (by rw [yf];exact HM.znr.1) ⟨rfl,?_⟩
   rw [HBB.znr]
   exact HE.znr
end Go.Proofs.YtjaioajjfiaheaaGreatDoor

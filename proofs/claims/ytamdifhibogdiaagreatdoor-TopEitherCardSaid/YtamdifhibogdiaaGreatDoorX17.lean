/-
  Texts of this claim, one behind the other.
-/
import Derived.Test.YtamdifhibogdiaaGreatDoorX1
import Derived.Test.YtamdifhibogdiaaGreatDoorX15
import Derived.Test.YtamdifhibogdiaaGreatDoorX16
import Derived.Test.YtamdifhibogdiaaGreatDoorX6
import Derived.Test.YtamdifhibogdiaaGreatDoorX7
import Derived.Test.YtamdifhibogdiaaGreatDoorX3
import Derived.Handy
import Derived.Lib.Hide
set_option linter.unusedVariables false
set_option linter.unusedSimpArgs false
set_option maxHeartbeats 16000000
set_option maxRecDepth 100000
open Array renaming getD→gU
open List renaming length_append→q8,length_map→yf,length_set→Vo,mem_map→ug,mem_of_getElem?→xU,replicate→wh
open Nat renaming le_refl→xc,lt_or_ge→bg
namespace Go.Mem
open RowKit Cells Ops
theorem zo4 {P:Program} (w:World) (t e:TypeId) (size:Nat) (ht:P.underlying t=some (.slice e)) (hs:(P.info? e).map (·.size)=some size) (ao:Option Addr) (len cap n:Nat) (h:n≤cap) :
  (Instr.slice t (.slice ao len cap) none (some (.int .i64 (n:Int))) (some (.int .i64 (n:Int)))).run P w=.ok (.slice ao n n) w:=by
 cases hq:P.info? e with
 | none=>rw [hq] at hs;cases hs
 | some x =>
  have hx:x.size=size:=by rw [hq] at hs;simpa using hs
  by_cases h0:n=0
  ·subst h0
   simp [Instr.slice,Instr.sliceBounds,Instr.sliceBound,run_underlying ht,sizeOf,typeInfo,hq,hx,asIntOf]
  ·have h0':¬ (n=0):=h0
   cases ao with
   | none=>simp [Instr.slice,Instr.sliceBounds,Instr.sliceBound,run_underlying ht,sizeOf,typeInfo,hq,hx,asIntOf,h,h0']
   | some a=>cases a;simp [Instr.slice,Instr.sliceBounds,Instr.sliceBound,run_underlying ht,sizeOf,typeInfo,hq,hx,asIntOf,h,h0',Addr.add]
theorem _root_.Go.Cells.Blk.zd1 {w:World} {b:Nat} {vs:List Value} {ty:TypeId} (h:Blk w b vs ty) (i:Nat):w.cell? ⟨b,i,none⟩=vs[i]?:=by
 unfold Blk at h
 simp [World.cell?,h]
theorem _root_.Go.Cells.Only.zcC {b:Nat} {w w':World} (h:Only b w w') {c:Nat} (i:Nat) (hne:c≠b):w'.cell? ⟨c,i,none⟩=w.cell? ⟨c,i,none⟩:=by
 simp [World.cell?,h.block c hne]
theorem zr.only {w w':World} {ao:Option Addr} {xs vs:List Value} {b:Nat} {ty:TypeId} (h:zr w ao xs) (hb:Blk w b vs ty) (hne:∀ x∈xs,x∉vs) (ho:Only b w w'):zr w' ao xs:=by
 intro j u hu
 obtain ⟨c,off,e,hc⟩:=h j u hu
 refine ⟨c,off,e,?_⟩
 by_cases he:c=b
 ·subst he
  exfalso
  refine hne u (xU hu) ?_
  have h1:w.cell? ⟨c,off+j,none⟩=vs[off+j]?:=hb.zd1 _
  rw [hc] at h1
  exact xU h1.symm
 ·rw [← hc]
  exact ho.zcC _ he
theorem Str.In.only {w w':World} {s:Str} {vs:List Value} {b:Nat} {ty:TypeId} (h:s.In w) (hb:Blk w b vs ty) (hne:∀ x:UInt8,B x∉vs) (ho:Only b w w'):s.In w' :=
 ⟨h.le,h.lies.only hb (by intro x hx;obtain ⟨y,_,rfl⟩:=ug.1 hx;exact hne y) ho⟩
theorem xY.only {w w':World} {ao:Option Addr} {ss:List Str} {vs:List Value} {b:Nat} {ty:TypeId} (h:xY w ao ss) (hb:Blk w b vs ty) (h1:∀ s∈ss,s.val∉vs) (hne:∀ x:UInt8,B x∉vs) (ho:Only b w w'):xY w' ao ss :=
 ⟨h.lies.only hb (by intro x hx;obtain ⟨y,hy,rfl⟩:=ug.1 hx;exact h1 y hy) ho,fun s hs=>(h.each s hs).only hb hne ho⟩
end Go.Mem
namespace Go.Cells
open RowKit
theorem zpb {P:Program} {w:World} {op:Oper} {a:Act} {K:Act→World→Prop} {Q:Exit→Act→World→Prop} (t e:TypeId) (z:Value) (by':Nat) (n:Nat) {l c:Operand} {kl kc:IntKind} {L C:Int}
  (hop:op.op=Op.makeSlice t l c) (hl:a.eval l=.int kl L) (hc:a.eval c=.int kc C) (h1:P.underlying t=some (.slice e)) (hi:(P.info? e).map (fun i=>(i.zero,i.size,i.bytes))=some (some z,1,by')) (hz:z.cells=#[z])
  (hL:L=(n:Int)) (hC:C=(n:Int)) (b2:by'*n≤281474976710656) (b3:n≤maxLen)
  (k:∀ w',Blk w' w.heap.size (wh n z) e→Below w.heap.size w w'→K (a.put op.dst (.slice (some ⟨w.heap.size,0,none⟩) n n)) w'):op.wp P a w K Q:=by
 obtain ⟨i0,hi0,hz0,hz1,hz2⟩:=info_parts hi
 obtain ⟨w',hrun,hown,hgrow⟩:=run_make_full (P:=P) w w.heap.size t e i0 z 1 h1 hi0 hz0 hz1 kl kc n (by rw [hz2];exact b2) b3 (xc _)
 subst hL
 subst hC
 have hb:=(KX hown).1
 have e1:(madeCells z.cells (n*1)).toList=wh n z:=by
  rw [hz,Nat.mul_one,toList_madeCells_one]
 rw [e1] at hb
 unfold Oper.wp
 simp [execOp,hop,hl,hc,hrun,Result.andThen]
 exact k w' hb ((Below.refl w.heap.size w).grown hgrow (xc _) (fun k h=>by cases h))
end Go.Cells
namespace Go.Proofs.YtamdifhibogdiaaGreatDoor
open RowKit Mem Ops Cells Oct Gf Trn Aes Ring Ezk Ezh Ezt Aez Blake ru Fl
attribute [local irreducible] zE zN zO zM yu
theorem znz:Row Tryz.prog 177 3:=⟨by kernel_rfl,by kernel_rfl⟩
theorem zn0:(Tryz.prog.info? 177).map (·.zero)=some (some (.agg #[.nilFunc,.nilFunc,.nilFunc])):=by kernel_rfl
theorem zot:(Tryz.prog.info? 173).map (·.zero)=some (some (.slice none 0 0)):=by kernel_rfl
theorem zou:(Tryz.prog.info? 173).map (·.size)=some 1:=by kernel_rfl
def zof (bc br bt:Nat):List Value:=[.func (.func 137) #[] #[.pointer (some ⟨bc,0,none⟩),.pointer (some ⟨br,0,none⟩)],.func (.func 139) #[] #[.pointer (some ⟨bc,0,none⟩),.pointer (some ⟨br,0,none⟩)],.func (.func 140) #[] #[.pointer (some ⟨bc,0,none⟩),.pointer (some ⟨br,0,none⟩),.pointer (some ⟨bt,0,none⟩)]]
structure Bnd (w:World) (bc br cp kp q p:Nat) (k:zv) (a:Addr) (ss:List Str):Prop where
 c:Blk w bc [.pointer (some ⟨cp,0,none⟩)] 47
 r:Blk w br [.slice (some a) 2 2] 173
 JN:zoe w cp kp q p k
 len:ss.length=2
 strs:xY w (some a) ss
 lens:∀ s∈ss,s.bs.length≤10000
theorem Bnd.later {w w':World} {bc br cp kp q p:Nat} {k:zv} {a:Addr} {ss:List Str} (h:Bnd w bc br cp kp q p k a ss) (hb:Below w.heap.size w w'):Bnd w' bc br cp kp q p k a ss :=
 ⟨h.c.below hb h.c.lt,h.r.below hb h.r.lt,h.JN.later hb,h.len,h.strs.below hb,h.lens⟩
theorem zpk (cp kp q p:Nat) (k:zv) (ao:Option Addr) (n cap:Nat) (bs:List UInt8) (w:World) (hc:zoe w cp kp q p k) (hn:bs.length=n) (hb:n≤1000) (hl:zr w ao (bs.map B)) :
  Calls Tryz.prog 96 #[.pointer (some ⟨cp,0,none⟩),.int .i64 16,.slice ao n cap,.slice none 0 0] w fun e w'=>∃ bc br bt a ss,e=.returned (.tuple #[.agg (zof bc br bt).toArray,.int .i64 0])∧Bnd w' bc br cp kp q p k a ss∧rowOf ss=vb 16 bs []∧Below w.heap.size w w':=by
 have HC:=znq hc
 have HN:=znq hn
 have HL:=znq hl
 have HS:=znq (St.start w)
 clear hc hn hl
 go_enter Tryz.func96,Tryz.ntmps96
 go_wp2_with (refine zh 47 _ ([.pointer (some ⟨cp,0,none⟩)]) _ rfl rfl rfl rfl ?_)
 intro w1 hb hbel;have HS:=znq (HS.znr.push hb hbel);have hlt1:=hb.lt;clear hb hbel
 go_wp2_with (refine zh 3 _ ([.int .i64 16]) _ rfl rfl rfl rfl ?_)
 intro w2 hb hbel;have HS:=znq (HS.znr.push hb hbel);have hlt2:=hb.lt;clear hb hbel
 go_wp2_with (refine ze 177 ([.nilFunc,.nilFunc,.nilFunc]) _ rfl rfl zn0 rfl ?_)
 intro w3 hb hbel;have HS:=znq (HS.znr.push hb hbel);have hlt3:=hb.lt;clear hb hbel
 generalize hbb:w.heap.size=bb at *
 generalize w1.heap.size=bw1 at *
 generalize w2.heap.size=bw2 at *
 have HBB:=znq hbb
 clear hbb
 have hc1:=(HS.znr.get 2 rfl).cell 0 _ rfl
 have hc2:=(HS.znr.get 1 rfl).cell 0 _ rfl
 go_wp2_with fail
 refine (zpf ao n cap bs _ HN.znr hb (HL.znr.below (HS.znr.old HBB.znr))).mono ?_
 rintro e w4 ⟨a,ss,rfl,hl2,hro,hss,hbel⟩
 have HS:=znq (HS.znr.later hbel)
 have HSS:=znq hss
 have HRO:=znq hro
 have HLE:=znq (show ss.length=2∧True from ⟨hl2,trivial⟩)
 have HLS:=znq (show ∀ s∈ss,s.bs.length≤10000 from by
  intro s hs
  have:s.bs∈rowOf ss:=ug.2 ⟨s,hs,rfl⟩
  rw [hro] at this
  simp [vb,zf] at this
  rcases this with h | h
  ·rw [h];simp
  ·rw [h,HN.znr];omega)
 clear hl2 hro hss hbel hc1 hc2
 have hz4:=HS.znr.size
 have hz5:bw2 < w4.heap.size:=(HS.znr.get 0 rfl).lt
 go_wp2_with (refine ze 173 [.slice none 0 0] _ rfl rfl zot rfl ?_)
 intro w5 hb hbel;have HS:=znq (HS.znr.push hb hbel);have HB5:=znq hbel;have zcO:=hb.lt;clear hb hbel
 go_wp2_with (refine (HS.znr.get 0 rfl).zch 0 (.slice (some a) 2 2) rfl rfl rfl rfl zou rfl rfl (by simp) ?_)
 intro w6 hb6 ho6
 have HSS:=znq (HSS.znr.below (zk HB5.znr ho6 (xc _)))
 have HS:=znq (show St w bb w6 [(w4.heap.size,[.slice (some a) 2 2],173),(bw2,[.nilFunc,.nilFunc,.nilFunc],177),(bw1,[.int .i64 16],3),(bb,[.pointer (some ⟨cp,0,none⟩)],47)] from HS.znr.change 0 hb6 ho6 (by omega) (by simp;omega))
 clear hb6 ho6 HB5
 generalize w4.heap.size=bw4 at *
 have hc1:=(HS.znr.get 3 rfl).cell 0 _ rfl
 go_wp2_with fail
 refine (XJ cp kp q p k _ (HC.znr.later (HS.znr.old HBB.znr))).mono ?_
 rintro e w7 ⟨rfl,rfl⟩
 go_wp2_with (refine (HS.znr.get 1 rfl).mM rfl rfl rfl (cs:=zof bb bw4 bw1) rfl znz rfl rfl (by simp [zof,Value.oneCell']) ?_)
 intro w8 hb8 ho8
 have HB:=znq (zk HS.znr.bel ho8 (by omega))
 have HSS:=znq (HSS.znr.only (HS.znr.get 1 rfl) (by simp [Str.val]) (by simp) ho8)
 have HBN:=znq (show Bnd w8 bb bw4 cp kp q p k a ss from ⟨(HS.znr.get 3 rfl).only ho8 (by omega),(HS.znr.get 0 rfl).only ho8 (by omega),HC.znr.later (by rw [HBB.znr];exact HB.znr),HLE.znr.1,HSS.znr,HLS.znr⟩)
 go_wp2
 refine hb8.zaN rfl rfl rfl rfl znz rfl ⟨bb,bw4,bw1,a,ss,rfl,HBN.znr,HRO.znr,by rw [HBB.znr];exact HB.znr⟩
theorem zp4 (bc br cp kp q p:Nat) (k:zv) (a:Addr) (ss:List Str) (bo:Option Addr) (n cb:Nat) (m:List UInt8) (w:World) (hc:Bnd w bc br cp kp q p k a ss) (hn:m.length=n) (h1:1≤n) (h31:n≤20000) (hcb:n≤cb) (hl:zr w bo (m.map B)) :
  Calls Tryz.prog 137 #[.slice bo n cb,.pointer (some ⟨bc,0,none⟩),.pointer (some ⟨br,0,none⟩)] w fun e w'=>∃ v,e=.returned (.tuple #[v,.int .i64 0])∧w'.ownsRow w.heap.size 5 1 v n ((tK k (rowOf ss) m false).map B)∧Below w.heap.size w w':=by
 have HC:=znq hc
 have HN:=znq hn
 have HL:=znq hl
 have hc0:=hc.c.cell 0 _ rfl
 have hc1:=hc.r.cell 0 _ rfl
 clear hc hn hl
 go_enter Tryz.func137,Tryz.ntmps137
 go_wp2_with fail
 refine (zpj cp kp q p k (some a) 2 2 ss bo n cb m false _ HC.znr.JN HC.znr.len (by omega) HC.znr.strs HC.znr.lens HN.znr h1 h31 hcb HL.znr).mono ?_
 rintro e w1 ⟨v1,rfl,hown,hbel⟩
 have HO:=znq hown
 have HB:=znq hbel
 clear hown hbel
 go_wp2
 go_ret2
 exact ⟨_,rfl,HO.znr,HB.znr⟩
theorem zp5 (bc br cp kp q p:Nat) (k:zv) (a:Addr) (ss:List Str) (bo:Option Addr) (n cb:Nat) (m:List UInt8) (w:World) (hc:Bnd w bc br cp kp q p k a ss) (hn:m.length=n) (h1:1≤n) (h31:n≤20000) (hcb:n≤cb) (hl:zr w bo (m.map B)) :
  Calls Tryz.prog 139 #[.slice bo n cb,.pointer (some ⟨bc,0,none⟩),.pointer (some ⟨br,0,none⟩)] w fun e w'=>∃ v,e=.returned (.tuple #[v,.int .i64 0])∧w'.ownsRow w.heap.size 5 1 v n ((tK k (rowOf ss) m true).map B)∧Below w.heap.size w w':=by
 have HC:=znq hc
 have HN:=znq hn
 have HL:=znq hl
 have hc0:=hc.c.cell 0 _ rfl
 have hc1:=hc.r.cell 0 _ rfl
 clear hc hn hl
 go_enter Tryz.func139,Tryz.ntmps139
 go_wp2_with fail
 refine (zpj cp kp q p k (some a) 2 2 ss bo n cb m true _ HC.znr.JN HC.znr.len (by omega) HC.znr.strs HC.znr.lens HN.znr h1 h31 hcb HL.znr).mono ?_
 rintro e w1 ⟨v1,rfl,hown,hbel⟩
 have HO:=znq hown
 have HB:=znq hbel
 clear hown hbel
 go_wp2
 go_ret2
 exact ⟨_,rfl,HO.znr,HB.znr⟩
theorem zoq (bc br bt:Nat):∀ v∈zof bc br bt,v.oneCell'=true:=by simp [zof,Value.oneCell']
theorem zp6 (cp kp q p:Nat) (k:zv) (ao:Option Addr) (n cap:Nat) (bs:List UInt8) (bo:Option Addr) (mn mc:Nat) (m:List UInt8) (w:World) (hc:zoe w cp kp q p k) (hn:bs.length=n) (hb:n≤1000) (hl:zr w ao (bs.map B))
  (hm:m.length=mn) (h1:1≤mn) (h31:mn+16≤20000) (hmc:mn≤mc) (hlm:zr w bo (m.map B)) :
  Calls Tryz.prog 55 #[.pointer (some ⟨cp,0,none⟩),.int .i64 16,.slice ao n cap,.slice none 0 0,.slice bo mn mc] w fun e w'=>∃ v,e=.returned (.tuple #[v,.int .i64 0])∧w'.ownsRow w.heap.size 5 1 v (mn+16) ((zn7 k (vb 16 bs []) 16 m).map B)∧Below w.heap.size w w':=by
 have HC:=znq hc
 have HN:=znq hn
 have HL:=znq hl
 have HM:=znq hm
 have HLM:=znq hlm
 have HSE:=znq (show zn7 k (vb 16 bs []) 16 m=tK k (vb 16 bs []) (m++zf 16) false∧True from ⟨by unfold zn7;rw [if_neg (by rintro rfl;simp at hm;omega)],trivial⟩)
 have HS:=znq (St.start w)
 have d0:((mn:Int)==0)=false:=by simp;omega
 clear hc hn hl hm hlm
 go_enter Tryz.func55,Tryz.ntmps55
 generalize hbb:w.heap.size=bb at *
 have HBB:=znq hbb
 clear hbb
 go_wp2_with fail
 refine (zpk cp kp q p k ao n cap bs _ HC.znr HN.znr hb HL.znr).mono ?_
 rintro e w1 ⟨bc,br,bt,a,ss,rfl,Qn,hro,hbel⟩
 have YB:=znq Qn
 have HRO:=znq (show rowOf ss=vb 16 bs []∧True from ⟨hro,trivial⟩)
 have HS:=znq (HS.znr.later hbel)
 have hz1:=HS.znr.size
 clear Qn hro hbel
 go_wp2_with (refine ze 177 [.nilFunc,.nilFunc,.nilFunc] _ rfl rfl zn0 rfl ?_)
 intro w2 hb hbel;have HS:=znq (HS.znr.push hb hbel);have HB2:=znq hbel;have hlt2:=hb.lt;clear hb hbel
 go_wp2_with (refine (HS.znr.get 0 rfl).mM rfl rfl rfl (cs:=zof bc br bt) rfl znz rfl rfl (zoq _ _ _) ?_)
 intro w3 hb3 ho3
 have YB:=znq (YB.znr.later (zk HB2.znr ho3 (xc _)))
 have HS:=znq (HS.znr.change 0 hb3 ho3 (by omega) (by simp))
 clear hb3 ho3 HB2
 generalize w1.heap.size=bw1 at *
 have hcf:=fun (y:zG w3.drew)=>((HS.znr.drew.later y.later).get 0 rfl).cell 0 _ rfl
 go_wp2_with fail
 refine zn [0,1,2,3,4,5,6,7,8,9,10,11] (by kernel_rfl) (by kernel_rfl) ?_
 rintro w4 rfl
 iterate 4 refine m1R ?_
 clear hcf
 have HS:=znq HS.znr.drew
 have YB:=znq (YB.znr.later (Below.refl _ _).drew)
 have HLM:=znq (HLM.znr.below (HS.znr.old HBB.znr))
 refine zi rfl rfl (by rfl) (fun K hK=>?_)
 refine zpb 22 5 (.int .u8 0) 1 16 rfl rfl rfl Tryz.underlying22 yq rfl rfl rfl (by omega) (by unfold maxLen;omega) (fun w5 hb5 mX=>?_)
 rw [zfE] at hb5
 refine hK _ _ mX ?_
 have HS:=znq (HS.znr.later mX)
 have YB:=znq (YB.znr.later mX)
 have HLM:=znq (HLM.znr.below mX)
 have HL5:=znq (show zr w5 (some ⟨w3.heap.size,0,none⟩) _ from hb5.lies)
 clear hK K hb5 mX
 go_simp
 generalize w3.heap.size=b5 at *
 refine zi rfl rfl (by rfl) (fun K hK=>?_)
 go_simp
 refine hK _ _ (zD _ _) ?_
 clear hK K
 have HST:=znq (show xY (w5.alloc (.cells #[.slice bo mn mc,.slice (some ⟨b5,0,none⟩) 16 16] 22)) (some ⟨w5.heap.size,0,none⟩) [⟨bo,mc,m⟩,⟨some ⟨b5,0,none⟩,16,zf 16⟩] from ⟨by
   have:=(Blk.new w5 [.slice bo mn mc,.slice (some ⟨b5,0,none⟩) 16 16] 22).lies
   simpa [Str.val,HM.znr,zd] using this,by
   intro s hs
   simp at hs
   rcases hs with rfl | rfl
   ·exact ⟨by rw [HM.znr];exact hmc,HLM.znr.below (zD _ _)⟩
   ·exact ⟨by simp [zd],HL5.znr.below (zD _ _)⟩⟩)
 have zhA:=znq (show zin [⟨bo,mc,m⟩,⟨some ⟨b5,0,none⟩,16,zf 16⟩]=m++zf 16 from by simp [zin])
 have HS:=znq (HS.znr.later (zD w5 (.cells #[.slice bo mn mc,.slice (some ⟨b5,0,none⟩) 16 16] 22)))
 have YB:=znq (YB.znr.later (zD w5 (.cells #[.slice bo mn mc,.slice (some ⟨b5,0,none⟩) 16 16] 22)))
 obtain ⟨w6,hw6⟩:∃ w6,w6=w5.alloc (.cells #[.slice bo mn mc,.slice (some ⟨b5,0,none⟩) 16 16] 22):=⟨_,rfl⟩
 rw [← hw6] at HST HS YB
 rw [← hw6]
 clear hw6 HL5 HLM
 refine zi rfl rfl (by rfl) (fun K hK=>?_)
 go_simp
 refine (YU _ 2 2 _ _ rfl (by omega) HST.znr (by rw [zhA.znr,q8,HM.znr,zd];omega)).mono ?_
 rintro e w7 ⟨v7,rfl,rq,ny⟩
 rw [zhA.znr] at rq
 have YV:(m++zf 16).length=mn+16:=by rw [q8,HM.znr,zd]
 rw [YV] at rq
 obtain ⟨ao7,cap7,rfl,hc7,_,hl7⟩:=zw rq
 have HL7:=znq hl7
 have HLE7:=znq YV
 have HS:=znq (HS.znr.later ny)
 have YB:=znq (YB.znr.later ny)
 clear rq hl7 YV
 simp only [id]
 go_simp
 refine hK _ _ ny ?_
 clear hK K ny
 refine zi rfl rfl (by rfl) (fun K hK=>?_)
 go_simp
 refine (zp4 bc br cp kp q p k a ss ao7 (mn+16) cap7 (m++zf 16) _ YB.znr HLE7.znr (by omega) h31 hc7 HL7.znr).mono ?_
 rintro e w8 ⟨v8,rfl,p9,nG⟩
 rw [HRO.znr.1,← HSE.znr.1] at p9
 have hz7:=HS.znr.size
 have HO:=znq (yi p9 hz7)
 have HS:=znq (HS.znr.later nG)
 clear p9
 go_simp
 refine hK _ _ nG ?_
 clear hK K nG
 refine mqR ?_
 refine zo ?_
 go_wp2
 go_ret2
 exact ⟨_,rfl,by first | exact HO.znr | (rw [HBB.znr];exact HO.znr),by first | exact HS.znr.bel | exact HS.znr.old HBB.znr⟩
abbrev Wz (us:Nat→Value):Act:={ tmps:=#[us 0,us 1,us 2,us 3,us 4,us 5,us 6,us 7,us 8,us 9,us 10,us 11,us 12,us 13,us 14,us 15,us 16,us 17,us 18,us 19,us 20,us 21,us 22,us 23,us 24,us 25,us 26,us 27,us 28,us 29,us 30,us 31,us 32,us 33,us 34,us 35,us 36,us 37,us 38,us 39,us 40,us 41,us 42,us 43,us 44,us 45,us 46,us 47,us 48,us 49,us 50,us 51,us 52,us 53,us 54,us 55,us 56,us 57,us 58,us 59,us 60,us 61,us 62,us 63,us 64,us 65,us 66,us 67],defers:=[] }
def zkh (N:Prop) (w:World) (x:Act) (wr:World):Prop:=∃ us:Nat→Value,x=Wz us∧Hid N∧Hid (Below w.heap.size w wr)
theorem zkh.intro {N:Prop} {w:World} {x:Act} {wr:World} (hx:x=Wz (fun i=>x.tmps.getD i undef)) (h1:N) (h2:Below w.heap.size w wr):zkh N w x wr:=⟨_,hx,h1,h2⟩
def Qo (w':World) (o:Option (List UInt8)) (e:Ending):Prop:=match o with
 | some m=>∃ ao,e=.returned (.tuple #[.slice ao m.length m.length,.int .i64 0])∧zr w' ao (m.map B)
 | none=>e=.returned (.tuple #[.slice none 0 0,.int .i64 9])
theorem zp7 (cp kp q p:Nat) (k:zv) (ao:Option Addr) (n cap:Nat) (bs:List UInt8) (bo:Option Addr) (bn JO:Nat) (b:List UInt8) (w:World) (hc:zoe w cp kp q p k) (hn:bs.length=n) (hnb:n≤1000) (hl:zr w ao (bs.map B))
  (hb:b.length=bn) (h1:17≤bn) (h31:bn≤20000) (hbc:bn≤JO) (hlb:zr w bo (b.map B)) :
  Calls Tryz.prog 58 #[.pointer (some ⟨cp,0,none⟩),.int .i64 16,.slice ao n cap,.slice none 0 0,.slice bo bn JO] w fun e w'=>Qo w' (zop k (vb 16 bs []) 16 b) e∧Below w.heap.size w w':=by
 obtain ⟨m,hm⟩:∃ m,m=bn - 16:=⟨_,rfl⟩
 obtain ⟨r,hr⟩:∃ r,r=tK k (vb 16 bs []) b true:=⟨_,rfl⟩
 have HR:=znq (show tK k (vb 16 bs []) b true=r∧True from ⟨hr.symm,trivial⟩)
 have HRL:=znq (show r.length=bn from by rw [hr,Kg];exact hb)
 have HOP:=znq (show zop k (vb 16 bs []) 16 b=(if r.drop m=zf 16 then some (r.take m) else none)∧True from ⟨by
  unfold zop
  rw [hb,if_neg (by omega),if_neg (by omega),← hr,← hm],trivial⟩)
 have HC:=znq hc
 have HN:=znq hn
 have HL:=znq hl
 have HB:=znq hb
 have HLB:=znq hlb
 have HS:=znq (St.start w)
 have e0:(bn:Int) - 16=(m:Int):=by omega
 have d0:decide ((m:Int) < 0)=false:=by simp
 have d1:((m:Int)==0)=false:=by simp;omega
 have hmb:m≤bn:=by omega
 have HDL:=znq (show (r.drop m).length=bn - m by rw [List.length_drop,HRL.znr])
 have HM16:=znq (show bn - m=16∧True from ⟨by omega,trivial⟩)
 clear hr hc hn hl hb hlb hm
 rw [HOP.znr.1]
 go_enter Tryz.func58,Tryz.ntmps58
 generalize hbb:w.heap.size=bb at *
 have HBB:=znq hbb
 clear hbb
 go_wp2_with fail
 refine yd 0 (zkh (¬ r.drop m=zf 16) w) (fun _ _=>0) rfl ?_ ?_
 ·simp only [q9]
  go_wp2_with fail
  refine (zpk cp kp q p k ao n cap bs _ HC.znr HN.znr hnb HL.znr).mono ?_
  rintro e w1 ⟨bc,br,bt,a,ss,rfl,Qn,hro,hbel⟩
  have YB:=znq Qn
  have HRO:=znq (show rowOf ss=vb 16 bs []∧True from ⟨hro,trivial⟩)
  have HS:=znq (HS.znr.later hbel)
  have hz1:=HS.znr.size
  clear Qn hro hbel
  go_wp2_with (refine ze 177 [.nilFunc,.nilFunc,.nilFunc] _ rfl rfl zn0 rfl ?_)
  intro w2 hb hbel;have HS:=znq (HS.znr.push hb hbel);have HB2:=znq hbel;have hlt2:=hb.lt;clear hb hbel
  go_wp2_with (refine (HS.znr.get 0 rfl).mM rfl rfl rfl (cs:=zof bc br bt) rfl znz rfl rfl (zoq _ _ _) ?_)
  intro w3 hb3 ho3
  have YB:=znq (YB.znr.later (zk HB2.znr ho3 (xc _)))
  have HS:=znq (HS.znr.change 0 hb3 ho3 (by omega) (by simp))
  clear hb3 ho3 HB2
  generalize w1.heap.size=bw1 at *
  have hcf:=(HS.znr.get 0 rfl).cell 1 _ rfl
  go_wp2_with fail
  refine (zp5 bc br cp kp q p k a ss bo bn JO b _ YB.znr HB.znr (by omega) h31 hbc (HLB.znr.below (HS.znr.old HBB.znr))).mono ?_
  rintro e w4 ⟨v4,rfl,zbU,nD⟩
  rw [HRO.znr.1,HR.znr.1] at zbU
  obtain ⟨ao4,cap4,rfl,hcap4,_,hl4⟩:=zw zbU
  have HL4:=znq hl4
  have HS:=znq (HS.znr.later nD)
  have hs:=fun w=>yv (P:=Tryz.prog) w 22 5 1 Tryz.underlying22 zl ao4 bn cap4 m (m:Int) rfl hmb
  have hs3:=fun w=>zo4 (P:=Tryz.prog) w 22 5 1 Tryz.underlying22 zl ao4 bn cap4 m (by omega)
  clear zbU hl4 nD hcf
  go_wp2_with fail
  refine zn [0,1,2,3,4,5,6,7,8,9,10] (by kernel_rfl) (by kernel_rfl) ?_
  rintro w5 rfl
  iterate 7 refine m1R ?_
  have HS:=znq HS.znr.drew
  have HL4:=znq (HL4.znr.below (Below.refl _ _).drew)
  refine zi rfl rfl (by rfl) (fun K hK=>?_)
  refine zpb 22 5 (.int .u8 0) 1 16 rfl rfl rfl Tryz.underlying22 yq rfl rfl rfl (by omega) (by unfold maxLen;omega) (fun w6 hb6 mQ=>?_)
  rw [zfE] at hb6
  refine hK _ _ mQ ?_
  have HS:=znq (HS.znr.later mQ)
  have HL4:=znq (HL4.znr.below mQ)
  have HL6:=znq hb6.lies
  clear hK K hb6 mQ
  go_simp
  refine zi rfl rfl (by rfl) (fun K hK=>?_)
  go_simp
  refine (zp2 (yy ao4 cap4 m) _ (bn - m) 16 (cap4 - m) 16 (r.drop m) (zf 16) _ HDL.znr (zd 16) (by omega) (zr.rJ HL4.znr (by rw [HRL.znr];exact hcap4) m) HL6.znr).mono ?_
  rintro e w7 ⟨rfl,ny⟩
  have HS:=znq (HS.znr.later ny)
  have HL4:=znq (HL4.znr.below ny)
  by_cases hz:r.drop m=zf 16
  ·have HZ:=znq (show (r.drop m=zf 16)∧True from ⟨hz,trivial⟩)
   rw [decide_eq_true hz]
   clear hz
   go_simp
   refine hK _ _ ny ?_
   clear hK K ny
   refine mqR ?_
   refine zo ?_
   go_wp2
   rw [Exit.nZ]
   go_ret2
   rw [if_pos HZ.znr.1]
   have hlm:(r.take m).length=m:=by rw [List.length_take,HRL.znr];omega
   refine ⟨⟨ao4,by rw [hlm];rfl,?_⟩,by first | exact HS.znr.bel | exact HS.znr.old HBB.znr⟩
   have:=HL4.znr.take m
   rwa [← List.map_take] at this
  ·have HZ:=znq hz
   rw [decide_eq_false hz]
   clear hz
   go_simp
   refine hK _ _ ny ?_
   clear hK K ny
   refine mqR ?_
   refine zo ?_
   go_wp2
   refine wp_goto ⟨rfl,zkh.intro rfl HZ.znr (HS.znr.old HBB.znr)⟩
 ·rintro x wr ⟨us,rfl,HZ,HB⟩
  clear HS
  go_wp2
  rw [Exit.nZ]
  go_ret2
  rw [if_neg HZ.znr]
  exact ⟨rfl,by first | exact HB.znr | (rw [← HBB.znr];exact HB.znr)⟩
end Go.Proofs.YtamdifhibogdiaaGreatDoor
namespace Go
open RowKit
section
variable {P:Program} {ops:Array Oper} {Q:Exit→Act→World→Prop}
def zH.make (i:Nat) (d:Tmp) (e:TypeId) (vs:List Value):zH:=⟨i,d,.cells vs.toArray e,fun n=>.slice (some ⟨n,0,none⟩) vs.length vs.length⟩
@[go_sem,simp] theorem ziT (i:Nat) (d:Tmp) (t:TypeId) (vs:List Value):(zH.make i d t vs).dst=d:=rfl
@[go_sem,simp] theorem ziU (i:Nat) (d:Tmp) (t:TypeId) (vs:List Value) (n:Nat):(zH.make i d t vs).val n=.slice (some ⟨n,0,none⟩) vs.length vs.length:=rfl
@[go_sem,simp] theorem ziV (i:Nat) (d:Tmp) (t:TypeId) (vs:List Value):(zH.make i d t vs).obj=.cells vs.toArray t:=rfl
end
end Go
namespace Go.Proofs.YtamdifhibogdiaaGreatDoor
open RowKit Mem Ops Cells Oct Gf Trn Aes Ring Ezk Ezh Ezt Ezc Aez Blake ru Fl Wid
attribute [local irreducible] zE zN zO zM yu
def Zd (t:List UInt8) (ao:Option Addr) (cap:Nat):List Str:=[⟨ao,cap,t⟩]
theorem zc2 (kp q p:Nat) (k:zv) (ao:Option Addr) (tn tc:Nat) (t:List UInt8) (bo:Option Addr) (n cb:Nat) (m:List UInt8) (w:World) (hk:xH w kp q p k) (ht:t.length=tn) (ht1:tn≤10000) (htc:tn≤tc) (hlt:zr w ao (t.map B))
  (hn:m.length=n) (h1:1≤n) (h31:n≤20000) (hcb:n≤cb) (hl:zr w bo (m.map B)) :
  Calls Tryz.prog 356 #[.agg #[.pointer (some ⟨kp,0,none⟩)],.slice ao tn tc,.slice bo n cb] w fun e w'=>∃ v,e=.returned (.tuple #[v,.int .i64 0])∧w'.ownsRow w.heap.size 5 1 v n ((tK k [t] m false).map B)∧Below w.heap.size w w':=by
 have HK:=znq hk
 have HT:=znq ht
 have HLT:=znq hlt
 have HN:=znq hn
 have HL:=znq hl
 clear hk ht hlt hn hl
 go_enter Tryz.func356,Tryz.ntmps356
 go_wp2_with (refine zh 227 _ [.pointer (some ⟨kp,0,none⟩)] _ rfl rfl rfl rfl ?_)
 intro w1 hb hbel
 have HBK:=znq hb
 have HB:=znq hbel
 clear hb hbel
 go_wp2_with (refine HBK.znr.mP rfl rfl rfl jv rfl ?_)
 go_wp2_with fail
 have HSS:=znq (show xY (w1.alloc (.cells #[.slice ao tn tc] 22)) (some ⟨w1.heap.size,0,none⟩) (Zd t ao tc) from by
  refine ⟨?_,?_⟩
  ·have:=(Blk.new w1 [.slice ao tn tc] 22).lies
   simpa [Zd,Str.val,HT.znr] using this
  ·intro s hs
   simp [Zd] at hs
   subst hs
   exact ⟨by rw [HT.znr];exact htc,(HLT.znr.below HB.znr).below (zD _ _)⟩)
 have HB:=znq (HB.znr.trans ((zD w1 (.cells #[.slice ao tn tc] 22)).mono HB.znr.size))
 generalize w1.alloc (.cells #[.slice ao tn tc] 22)=w2 at *
 refine (zci kp q p k (some ⟨w1.heap.size,0,none⟩) 1 1 (Zd t ao tc) bo n cb m false _ (HK.znr.later HB.znr) rfl (by omega) HSS.znr (by intro s hs;simp [Zd] at hs;subst hs;rw [HT.znr];exact ht1) HN.znr h1 h31 hcb (HL.znr.below HB.znr)).mono ?_
 rintro e w3 ⟨v3,rfl,hown,hbel⟩
 have HO:=znq (yi hown HB.znr.size)
 have HB:=znq (HB.znr.trans (hbel.mono HB.znr.size))
 clear hown hbel
 go_wp2
 go_ret2
 exact ⟨_,rfl,HO.znr,HB.znr⟩
theorem zc3 (kp q p:Nat) (k:zv) (ao:Option Addr) (tn tc:Nat) (t:List UInt8) (bo:Option Addr) (n cb:Nat) (m:List UInt8) (w:World) (hk:xH w kp q p k) (ht:t.length=tn) (ht1:tn≤10000) (htc:tn≤tc) (hlt:zr w ao (t.map B))
  (hn:m.length=n) (h1:1≤n) (h31:n≤20000) (hcb:n≤cb) (hl:zr w bo (m.map B)) :
  Calls Tryz.prog 355 #[.agg #[.pointer (some ⟨kp,0,none⟩)],.slice ao tn tc,.slice bo n cb] w fun e w'=>∃ v,e=.returned (.tuple #[v,.int .i64 0])∧w'.ownsRow w.heap.size 5 1 v n ((tK k [t] m true).map B)∧Below w.heap.size w w':=by
 have HK:=znq hk
 have HT:=znq ht
 have HLT:=znq hlt
 have HN:=znq hn
 have HL:=znq hl
 clear hk ht hlt hn hl
 go_enter Tryz.func355,Tryz.ntmps355
 go_wp2_with (refine zh 227 _ [.pointer (some ⟨kp,0,none⟩)] _ rfl rfl rfl rfl ?_)
 intro w1 hb hbel
 have HBK:=znq hb
 have HB:=znq hbel
 clear hb hbel
 go_wp2_with (refine HBK.znr.mP rfl rfl rfl jv rfl ?_)
 go_wp2_with fail
 have HSS:=znq (show xY (w1.alloc (.cells #[.slice ao tn tc] 22)) (some ⟨w1.heap.size,0,none⟩) (Zd t ao tc) from by
  refine ⟨?_,?_⟩
  ·have:=(Blk.new w1 [.slice ao tn tc] 22).lies
   simpa [Zd,Str.val,HT.znr] using this
  ·intro s hs
   simp [Zd] at hs
   subst hs
   exact ⟨by rw [HT.znr];exact htc,(HLT.znr.below HB.znr).below (zD _ _)⟩)
 have HB:=znq (HB.znr.trans ((zD w1 (.cells #[.slice ao tn tc] 22)).mono HB.znr.size))
 generalize w1.alloc (.cells #[.slice ao tn tc] 22)=w2 at *
 refine (zci kp q p k (some ⟨w1.heap.size,0,none⟩) 1 1 (Zd t ao tc) bo n cb m true _ (HK.znr.later HB.znr) rfl (by omega) HSS.znr (by intro s hs;simp [Zd] at hs;subst hs;rw [HT.znr];exact ht1) HN.znr h1 h31 hcb (HL.znr.below HB.znr)).mono ?_
 rintro e w3 ⟨v3,rfl,hown,hbel⟩
 have HO:=znq (yi hown HB.znr.size)
 have HB:=znq (HB.znr.trans (hbel.mono HB.znr.size))
 clear hown hbel
 go_wp2
 go_ret2
 exact ⟨_,rfl,HO.znr,HB.znr⟩
end Go.Proofs.YtamdifhibogdiaaGreatDoor
namespace Go.Proofs.YtamdifhibogdiaaGreatDoor
open RowKit Mem Ops Cells Oct Gf Trn Aes Ring Ezk Ezh Ezt Ezc Aez Blake ru Fl Wid
attribute [local irreducible] zE zN zO zM yu
theorem J2 (n:Nat) (w:World):Calls Tryz.prog 89 #[.int .i64 n] w fun e w'=>e=.returned (.bool (decide (n=16∨n=24∨n=32)))∧w=w':=by
 by_cases h1:n=16
 ·subst h1
  have e1:decide (16=16∨16=24∨16=32)=true:=rfl
  rw [e1]
  go_enter Tryz.func89,Tryz.ntmps89
  go_wp2
  go_ret
  exact ⟨rfl,rfl⟩
 ·have d1:((n:Int)==16)=false:=by simp;omega
  by_cases h2:n=24
  ·subst h2
   have e1:decide (24=16∨24=24∨24=32)=true:=rfl
   rw [e1]
   go_enter Tryz.func89,Tryz.ntmps89
   go_wp2
   go_ret
   exact ⟨rfl,rfl⟩
  ·have d2:((n:Int)==24)=false:=by simp;omega
   have e1:decide (n=16∨n=24∨n=32)=((n:Int)==32):=by
    by_cases h3:n=32
    ·subst h3;rfl
    ·have:((n:Int)==32)=false:=by simp;omega
     rw [this];simp;omega
   rw [e1]
   go_enter Tryz.func89,Tryz.ntmps89
   go_wp2
   go_ret
   exact ⟨rfl,rfl⟩
theorem J3 (ao:Option Addr) (n cap:Nat) (w:World):Calls Tryz.prog 16 #[.slice ao n cap] w fun e w'=>e=.returned (.bool (decide (0 < n∧n≤128)))∧w=w':=by
 by_cases h0:n=0
 ·subst h0
  have d1:decide (0 < 0∧0≤128)=false:=by decide
  rw [d1]
  go_enter Tryz.func16,Tryz.ntmps16
  go_wp2
  go_ret
  exact ⟨rfl,rfl⟩
 ·have d0:decide ((n:Int) > 0)=true:=by simp;omega
  by_cases h1:n≤128
  ·have d1:decide (0 < n∧n≤128)=true:=by simp;omega
   have d2:decide ((n:Int)≤128)=true:=by simp;omega
   rw [d1]
   go_enter Tryz.func16,Tryz.ntmps16
   go_wp2
   go_ret
   exact ⟨rfl,rfl⟩
  ·have d1:decide (0 < n∧n≤128)=false:=by simp;omega
   have d2:decide ((n:Int)≤128)=false:=by simp;omega
   rw [d1]
   go_enter Tryz.func16,Tryz.ntmps16
   go_wp2
   go_ret
   exact ⟨rfl,rfl⟩
theorem qb (alg:Int) (ao:Option Addr) (n cap:Nat) (w:World):Calls Tryz.prog 50 #[.int .i64 alg,.slice ao n cap] w fun e w'=>e=.returned (.int .i64 (ko alg n))∧w=w':=by
 by_cases h1:alg=1
 ·subst h1
  by_cases h2:n=32
  ·subst h2
   have e:ko 1 32=0:=rfl
   rw [e]
   go_enter Tryz.func50,Tryz.ntmps50
   go_wp2
   go_ret
   exact ⟨rfl,rfl⟩
  ·have e:ko 1 n=2:=by unfold ko;rw [if_pos rfl,if_neg h2]
   have d:((n:Int) != 32)=true:=by simp;omega
   rw [e]
   go_enter Tryz.func50,Tryz.ntmps50
   go_wp2
   go_ret
   exact ⟨rfl,rfl⟩
 ·by_cases h2:alg=2
  ·subst h2
   by_cases h3:n=16∨n=24∨n=32
   ·have e:ko 2 n=0:=by unfold ko;rw [if_neg (by omega),if_pos rfl,if_pos h3]
    have d:decide (n=16∨n=24∨n=32)=true:=by simpa using h3
    rw [e]
    clear h3
    go_enter Tryz.func50,Tryz.ntmps50
    go_wp2_with fail
    refine (J2 n _).mono ?_
    rintro e w1 ⟨rfl,rfl⟩
    rw [d]
    go_wp2
    go_ret
    exact ⟨rfl,rfl⟩
   ·have e:ko 2 n=2:=by unfold ko;rw [if_neg (by omega),if_pos rfl,if_neg h3]
    have d:decide (n=16∨n=24∨n=32)=false:=by simpa using h3
    rw [e]
    clear h3
    go_enter Tryz.func50,Tryz.ntmps50
    go_wp2_with fail
    refine (J2 n _).mono ?_
    rintro e w1 ⟨rfl,rfl⟩
    rw [d]
    go_wp2
    go_ret
    exact ⟨rfl,rfl⟩
  ·by_cases h3:alg=3
   ·subst h3
    by_cases h4:0 < n∧n≤128
    ·have e:ko 3 n=0:=by unfold ko;rw [if_neg (by omega),if_neg (by omega),if_pos rfl,if_pos h4]
     have d:decide (0 < n∧n≤128)=true:=by simpa using h4
     rw [e]
     clear h4
     go_enter Tryz.func50,Tryz.ntmps50
     go_wp2_with fail
     refine (J3 ao n cap _).mono ?_
     rintro e w1 ⟨rfl,rfl⟩
     rw [d]
     go_wp2
     go_ret
     exact ⟨rfl,rfl⟩
    ·have e:ko 3 n=2:=by unfold ko;rw [if_neg (by omega),if_neg (by omega),if_pos rfl,if_neg h4]
     have d:decide (0 < n∧n≤128)=false:=by simp;omega
     rw [e]
     clear h4
     go_enter Tryz.func50,Tryz.ntmps50
     go_wp2_with fail
     refine (J3 ao n cap _).mono ?_
     rintro e w1 ⟨rfl,rfl⟩
     rw [d]
     go_wp2
     go_ret
     exact ⟨rfl,rfl⟩
   ·have e:ko alg n=8:=by unfold ko;rw [if_neg h1,if_neg h2,if_neg h3]
    rw [e]
    by_cases h4:alg < 1
    ·have d:decide (alg < 1)=true:=by simp;omega
     go_enter Tryz.func50,Tryz.ntmps50
     go_wp2
     go_ret
     exact ⟨rfl,rfl⟩
    ·have d:decide (alg < 1)=false:=by simp;omega
     have d2:decide (alg > 3)=true:=by simp;omega
     go_enter Tryz.func50,Tryz.ntmps50
     go_wp2
     go_ret
     exact ⟨rfl,rfl⟩
end Go.Proofs.YtamdifhibogdiaaGreatDoor
namespace Go
open RowKit
section
variable {P:Program} {ops:Array Oper} {Q:Exit→Act→World→Prop} {md:Region.Mode} {R:World→World→Prop} {brk:List Nat}
theorem Xi (hrf:∀ a,R a a) {i:Nat} {oi:Oper} {v:Value} (hi:ops[i]? = some oi) (hsel:∀ (j:Nat) (o:Oper) cs b,ops[j]? = some o→o.op≠.select cs b)
  (hQ:∀ c a w,Q (.panic c) (a.put oi.dst v) w→Q (.panic c) a w) (D:Nat→Bool) (hDi:D i=false)
  (hD:∀ d,D d=true→∃ od,ops[d]? = some od∧∃ e∈od.after,Region.binds md e=true∧(e.on=i∨D e.on=true)) :
  ∀ (fuel:Nat) (listed:Array Bool) (a:Act) (w:World),
   (∀ d,D d=true→listed.getD d true=false) →
   (∀ j oj,ops[j]? = some oj→j≠i→listed.getD j true=false→D j=false→oi.apart ops oj=true) →
   i∈Region.ready md ops listed→YieldsIf P ops (fun _=>True) oi v a →
   qj R brk P md ops Q fuel (listed.setIfInBounds i true) (a.put oi.dst v) w→qj R brk P md ops Q (fuel+1) listed a w:=by
 intro fuel
 induction fuel with
 | zero =>
  intro listed a w _ _ hr hy H
  refine ⟨fun h=>(by rw [h] at hr;cases hr),fun j hj=>?_⟩
  by_cases hji:j=i
  ·subst hji;exact hy.wpOp hi trivial ⟨fun _=>hrf w,H⟩
  ·have:=ready_mono hj hji
   rw [H.1] at this
   cases this
 | succ fuel ih =>
  intro listed a w hun hfree hr hy H
  refine ⟨fun h=>(by rw [h] at hr;cases hr),fun j hj=>?_⟩
  by_cases hji:j=i
  ·subst hji;exact hy.wpOp hi trivial ⟨fun _=>hrf w,H⟩
  ·have h1:=H.2 j (ready_mono hj hji)
   obtain ⟨hjun,oj,hoj,hall⟩:=mem_ready.1 hj
   have hget:∀ k,listed.getD k true=false→(listed[k]?).getD true=false:=fun k hk=>by
    rcases bg k listed.size with h' | h'
    ·simpa [gU,h'] using hk
    ·simp [gU,Nat.not_lt.2 h'] at hk
   have hDj:D j=false:=by
    cases hdj:D j with
    | false=>rfl
    | true =>
     obtain ⟨od,hod,e,he,hb,hon⟩:=hD j hdj
     rw [hoj] at hod
     cases hod
     have h1:=hall e he hb
     have h0:listed.getD e.on true=false:=by
      rcases hon with h | h
      ·rw [h];exact (mem_ready.1 hr).1
      ·exact hun _ h
     rcases bg e.on listed.size with h' | h'
     ·simp [h'] at h0 h1;rw [h0] at h1;cases h1
     ·simp [Array.getElem?_eq_none h'] at h1
   have hfj:=hfree j oj hoj hji hjun hDj
   have h2:=wpOp_putIf hoj hfj (fun cs b=>hsel i oi cs b hi) (fun cs b=>hsel j oj cs b hoj) hQ hy h1
   have hun':∀ d,D d=true→(listed.setIfInBounds j true).getD d true=false:=fun d hd=>by
    have hne:j≠d:=by rintro rfl;rw [hDj] at hd;cases hd
    rw [getD_set_ne true hne]
    exact hun d hd
   have hfree':∀ k ok,ops[k]? = some ok→k≠i→(listed.setIfInBounds j true).getD k true=false →
     D k=false→oi.apart ops ok=true:=fun k ok hk hki hun hno=>by
    refine hfree k ok hk hki ?_ hno
    by_cases hjk:j=k
    ·subst hjk;exact hjun
    ·rw [getD_set_ne true hjk] at hun;exact hun
   refine wpOp_mono (fun a' w' h3=>⟨h3.2.1,ih (listed.setIfInBounds j true) a' w' hun' hfree' (ready_mono hr (Ne.symm hji)) h3.1 ?_⟩) h2
   rw [Array.setIfInBounds_comm _ _ hji]
   exact h3.2.2
def Region.checkN (brk:List Nat) (md:Region.Mode) (ops:Array Oper):List (Nat×Nat)→Array Bool→Bool
 | [],listed=>Region.ready md ops listed==[]
 | (i,q)::r,listed =>
  (match ops[i]? with
   | none=>false
   | some _=>if q=2 then (Region.ready md ops listed).contains i && Region.zbD [] md ops listed i
    else if q=1 then (Region.ready md ops listed).contains i && Region.zbD brk md ops listed i else Region.ready md ops listed==[i]) &&
  Region.checkN brk md ops r (listed.setIfInBounds i true)
def yJ (R:World→World→Prop) (brk:List Nat) (P:Program) (ops:Array Oper) (Q:Exit→Act→World→Prop):List (Nat×Nat)→Act→World→Prop
 | [],a,w=>Q .normal a w
 | (i,q)::r,a,w =>
  match ops[i]? with
  | none=>False
  | some o =>
   if Region.wanted o (yielded ops a.tmps)=true then
    (if q=2 then ∃ v,(∀ w',(execOp a.eval o).run P w'=.ok (.value v) w')∧yJ R brk P ops Q r (a.put o.dst v) w
     else if q=1 then ∃ v,(∀ w',R w w'→(execOp a.eval o).run P w'=.ok (.value v) w')∧yJ R brk P ops Q r (a.put o.dst v) w
     else o.wp P a w (fun a' w'=>(brk.contains i=false→R w w')∧yJ R brk P ops Q r a' w') Q)
   else yJ R brk P ops Q r (a.put o.dst undef) w
theorem xh (hrf:∀ a,R a a) (ht:∀ a b c,R a b→R b c→R a c) (hs:Region.noSelect ops=true) (hQ:∀ c a w,¬ Q (.panic c) a w):∀ (order:List (Nat×Nat)) (listed:Array Bool) (a:Act) (w:World),
  Region.checkN brk md ops order listed=true→yJ R brk P ops Q order a w→qj R brk P md ops Q order.length listed a w
 | [],listed,a,w,hB,h=>by
  simp only [Region.checkN,beq_iff_eq] at hB
  exact ⟨hB,h⟩
 | (i,q)::r,listed,a,w,hB,h=>by
  simp only [Region.checkN,Bool.and_eq_true] at hB
  obtain ⟨hB1,hB2⟩:=hB
  cases ho:ops[i]? with
  | none=>simp [ho] at hB1
  | some o =>
   simp only [ho] at hB1
   simp only [yJ,ho] at h
   by_cases q2:q=2
   ·simp only [q2,if_true,Bool.and_eq_true] at hB1 h
    obtain ⟨D,hDi,hD,hDu,hDf⟩:=Region.pV ho hB1.2
    have hDf':∀ j oj,ops[j]? = some oj→j≠i→listed.getD j true=false→D j=false→o.apart ops oj=true:=fun j oj h1 h2 h3 h4=>(hDf j oj h1 h2 h3 h4).1
    by_cases hw:Region.wanted o (yielded ops a.tmps)=true
    ·rw [if_pos hw] at h
     obtain ⟨v,hv,hr⟩:=h
     exact Xi hrf ho (Region.noSelect_spec hs) (fun c a w hq=>absurd hq (hQ _ _ _)) D hDi hD r.length listed a w hDu hDf' (by simpa using hB1.1) (.inl ⟨hw,fun w' _=>hv w'⟩)
      (xh hrf ht hs hQ r _ _ _ hB2 hr)
    ·rw [if_neg hw] at h
     exact Xi hrf ho (Region.noSelect_spec hs) (fun c a w hq=>absurd hq (hQ _ _ _)) D hDi hD r.length listed a w hDu hDf' (by simpa using hB1.1) (.inr ⟨by simpa using hw,rfl⟩)
      (xh hrf ht hs hQ r _ _ _ hB2 h)
   ·simp only [if_neg q2] at hB1 h
    by_cases q1:q=1
    ·simp only [q1,if_true,Bool.and_eq_true] at hB1 h
     obtain ⟨D,hDi,hD,hDu,hDf⟩:=Region.pV ho hB1.2
     by_cases hw:Region.wanted o (yielded ops a.tmps)=true
     ·rw [if_pos hw] at h
      obtain ⟨v,hv,hr⟩:=h
      exact qW hrf ht ho (Region.noSelect_spec hs) (fun c a w hq=>absurd hq (hQ _ _ _)) D hDi hD r.length listed a w hDu hDf (by simpa using hB1.1) (.inl ⟨hw,hv⟩)
       (xh hrf ht hs hQ r _ _ _ hB2 hr)
     ·rw [if_neg hw] at h
      exact qW hrf ht ho (Region.noSelect_spec hs) (fun c a w hq=>absurd hq (hQ _ _ _)) D hDi hD r.length listed a w hDu hDf (by simpa using hB1.1) (.inr ⟨by simpa using hw,rfl⟩)
       (xh hrf ht hs hQ r _ _ _ hB2 h)
    ·simp only [if_neg q1,beq_iff_eq] at hB1 h
     refine ⟨fun h0=>(by rw [hB1] at h0;cases h0),fun j hj=>?_⟩
     rw [hB1] at hj
     obtain rfl:j=i:=by simpa using hj
     unfold wpOp
     simp only [ho]
     by_cases hw:Region.wanted o (yielded ops a.tmps)=true
     ·rw [if_pos hw] at h ⊢
      refine .inl (Oper.wp_mono ?_ h)
      intro a' w' h'
      refine ⟨h'.1,xh hrf ht hs hQ r _ _ _ hB2 h'.2⟩
     ·rw [if_neg hw] at h ⊢
      exact ⟨fun _=>hrf w,xh hrf ht hs hQ r _ _ _ hB2 h⟩
theorem kW {id:Nat} {l:List Oper} {a:Act} {w:World} (R:World→World→Prop) (brk:List Nat) (order:List (Nat×Nat)) (hrf:∀ a,R a a) (ht:∀ a b c,R a b→R b c→R a c) (hm:P.follows .mixedOrders=true)
  (hB:(Region.noSelect l.toArray && (order.length==l.length) && Region.checkN brk .any l.toArray order (Array.replicate l.length false))=true)
  (h:∀ w',w'=w.drew→yJ R brk P l.toArray (NoPanic Q) order a w'):(Code.region id l.toArray true).wp P Q a w:=by
 simp only [Bool.and_eq_true,beq_iff_eq] at hB
 obtain ⟨⟨hs,hl⟩,hB⟩:=hB
 refine wp_region_noPanic (wp_region_any hm (ZD (R:=R) (brk:=brk) _ _ _ _ ?_))
 have:=xh (R:=R) (brk:=brk) (P:=P) (Q:=NoPanic Q) hrf ht hs (fun c a w hq=>hq) order _ a w.drew hB (h _ rfl)
 rw [hl] at this
 exact this
theorem jA {a:Act} {w:World} (h:Q .normal a w):yJ R brk P ops (NoPanic Q) [] a w:=h
theorem yS {i:Nat} {r:List (Nat×Nat)} {o:Oper} {a:Act} {w:World} (ho:ops[i]? = some o) (hw:Region.wanted o (yielded ops a.tmps)=true)
  (h:∀ K:Act→World→Prop,(∀ a' w',(brk.contains i=false→R w w')→yJ R brk P ops Q r a' w'→K a' w')→o.wp P a w K Q):yJ R brk P ops Q ((i,0)::r) a w:=by
 simp only [yJ,ho,hw,if_true,if_neg (show ¬ (0=2) by omega),if_neg (show ¬ (0=1) by omega)]
 exact h _ fun _ _ h1 h2=>⟨h1,h2⟩
theorem zbQ {i:Nat} {r:List (Nat×Nat)} {o:Oper} {tl:List Oper} {a:Act} {w:World} (hd:ops.toList.drop i=o::tl) (hk:o.nR=0)
  (hh:∀ K:Act→Prop,(∀ a',yJ R brk P ops Q r a' w→K a')→wpQuiet P ops (KJ R w) K [o] a):yJ R brk P ops Q ((i,1)::r) a w:=by
 have h:=hh (fun a'=>yJ R brk P ops Q r a' w) (fun _ h=>h)
 have ho:ops[i]? = some o:=by
  have:=congrArg (·[0]?) hd
  simpa using this
 simp only [wpQuiet] at h
 simp only [yJ,ho,if_neg (show ¬ (1=2) by omega),if_true]
 by_cases hw:Region.wanted o (yielded ops a.tmps)=true
 ·rw [if_pos hw] at h ⊢
  obtain ⟨v,hv,hn⟩:=h
  exact ⟨v,fun w' hw'=>xv hk (hv w' ⟨⟨w',hw'⟩,rfl⟩),hn⟩
 ·rw [if_neg hw] at h ⊢
  exact h
theorem za3 {i:Nat} {r:List (Nat×Nat)} {o:Oper} {tl:List Oper} {a:Act} {w:World} (hd:ops.toList.drop i=o::tl) (hk:o.nR=0)
  (hh:∀ K:Act→Prop,(∀ a',yJ R brk P ops Q r a' w→K a')→wpQuiet P ops (KJ (fun _ _=>True) w) K [o] a):yJ R brk P ops Q ((i,2)::r) a w:=by
 have h:=hh (fun a'=>yJ R brk P ops Q r a' w) (fun _ h=>h)
 have ho:ops[i]? = some o:=by
  have:=congrArg (·[0]?) hd
  simpa using this
 simp only [wpQuiet] at h
 simp only [yJ,ho,if_true]
 by_cases hw:Region.wanted o (yielded ops a.tmps)=true
 ·rw [if_pos hw] at h ⊢
  obtain ⟨v,hv,hn⟩:=h
  exact ⟨v,fun w'=>xv hk (hv w' ⟨⟨w',trivial⟩,rfl⟩),hn⟩
 ·rw [if_neg hw] at h ⊢
  exact h
instance (w:World):Nonempty (xR (fun _ _=>True) w):=⟨⟨w,trivial⟩⟩
end
end Go
namespace Go.Proofs.YtamdifhibogdiaaGreatDoor
open RowKit Mem Ops Cells Oct Trn Cha
attribute [local irreducible] zE zN zO zM yJ
theorem yW:Row Tryz.prog 329 16:=⟨by kernel_rfl,by kernel_rfl⟩
theorem zao {fn:Func} {t u v x:Tmp} (h:fn.results=#[.tmp t,.tmp u,.tmp v,.tmp x]) (tmps:Array Value) (P:Program) (w:World) :
  (results fn tmps).run P w=.ok (.tuple #[tmps.getD t undef,tmps.getD u undef,tmps.getD v undef,tmps.getD x undef]) w:=by
 simp [results,h]
def zkl (n:Nat):Prop:=n=16∨n=12∨n=8∨n=7
theorem zkm (x:UInt32) (n:Nat) (w:World) (hn:zkl n):Calls Tryz.prog 278 #[W x,.int .i64 n] w fun e w'=>e=.returned (W (zf2 x n))∧w=w':=by
 rcases hn with rfl | rfl | rfl | rfl
 ·show Calls _ _ #[W x,.int .i64 16] w _
  have hz2:bits .and .u64 16 31=16:=by decide
  go_enter Tryz.func278,Tryz.ntmps278
  go_wp2
  go_ret
  exact ⟨rfl,rfl⟩
 ·show Calls _ _ #[W x,.int .i64 12] w _
  have hz2:bits .and .u64 12 31=12:=by decide
  go_enter Tryz.func278,Tryz.ntmps278
  go_wp2
  go_ret
  exact ⟨rfl,rfl⟩
 ·show Calls _ _ #[W x,.int .i64 8] w _
  have hz2:bits .and .u64 8 31=8:=by decide
  go_enter Tryz.func278,Tryz.ntmps278
  go_wp2
  go_ret
  exact ⟨rfl,rfl⟩
 ·show Calls _ _ #[W x,.int .i64 7] w _
  have hz2:bits .and .u64 7 31=7:=by decide
  go_enter Tryz.func278,Tryz.ntmps278
  go_wp2
  go_ret
  exact ⟨rfl,rfl⟩
theorem KP (a b d:UInt32) (n:Nat) (w:World) (hn:zkl n):Calls Tryz.prog 275 #[W a,W b,W d,.int .i64 n] w fun e w'=>e=.returned (.tuple #[W (jI a b),W (zf2 (y6 d (jI a b)) n)])∧w=w':=by
 have HN:=znq hn
 clear hn
 go_enter Tryz.func275,Tryz.ntmps275
 go_wp2_with fail
 refine (zkm _ n _ HN.znr).mono ?_
 rintro e w1 ⟨rfl,rfl⟩
 go_wp2
 go_ret2
 exact ⟨rfl,rfl⟩
def zkn (f:zac):Array Value:=#[W f.a,W f.b,W f.c,W f.d]
theorem ze4 (f:zac) (w:World):Calls Tryz.prog 269 (zkn f) w fun e w'=>e=.returned (.tuple (zkn (quarter f)))∧w=w':=by
 obtain ⟨a,b,c,d⟩:=f
 show Calls _ _ #[W a,W b,W c,W d] w _
 obtain ⟨g1,h1⟩:∃ g,g=q1 ⟨a,b,c,d⟩ 16:=⟨_,rfl⟩
 obtain ⟨g2,h2⟩:∃ g,g=q2 g1 12:=⟨_,rfl⟩
 obtain ⟨g3,h3⟩:∃ g,g=q1 g2 8:=⟨_,rfl⟩
 obtain ⟨g4,h4⟩:∃ g,g=q2 g3 7:=⟨_,rfl⟩
 have HE:=znq (show quarter ⟨a,b,c,d⟩=g4∧True from ⟨by rw [h4,h3,h2,h1];rfl,trivial⟩)
 obtain ⟨a1,b1,c1,d1⟩:=g1
 obtain ⟨a2,b2,c2,d2⟩:=g2
 obtain ⟨a3,b3,c3,d3⟩:=g3
 obtain ⟨a4,b4,c4,d4⟩:=g4
 simp only [q1,q2,zac.mk.injEq] at h1 h2 h3 h4
 have H1:=znq (And.intro h1 trivial)
 have H2:=znq (And.intro h2 trivial)
 have H3:=znq (And.intro h3 trivial)
 have H4:=znq (And.intro h4 trivial)
 clear h1 h2 h3 h4
 go_enter Tryz.func269,Tryz.ntmps269
 go_wp2_with fail
 refine (KP a b d 16 _ (.inl rfl)).mono ?_
 rintro e w1 ⟨rfl,rfl⟩
 rw [← H1.znr.1.2.2.2,← H1.znr.1.1]
 go_wp2_with fail
 refine (KP c d1 b 12 _ (.inr (.inl rfl))).mono ?_
 rintro e w1 ⟨rfl,rfl⟩
 obtain ⟨rfl,rfl⟩:b1=b∧c1=c:=⟨H1.znr.1.2.1,H1.znr.1.2.2.1⟩
 rw [← H2.znr.1.2.1,← H2.znr.1.2.2.1]
 go_wp2_with fail
 obtain ⟨rfl,rfl⟩:a2=a1∧d2=d1:=⟨H2.znr.1.1,H2.znr.1.2.2.2⟩
 refine (KP a2 b2 d2 8 _ (.inr (.inr (.inl rfl)))).mono ?_
 rintro e w1 ⟨rfl,rfl⟩
 rw [← H3.znr.1.2.2.2,← H3.znr.1.1]
 go_wp2_with fail
 obtain ⟨rfl,rfl⟩:b3=b2∧c3=c2:=⟨H3.znr.1.2.1,H3.znr.1.2.2.1⟩
 refine (KP c3 d3 b3 7 _ (.inr (.inr (.inr rfl)))).mono ?_
 rintro e w1 ⟨rfl,rfl⟩
 rw [← H4.znr.1.2.1,← H4.znr.1.2.2.1]
 go_wp2
 (try simp only [Exit.inBlock,Exit.then])
 refine bodyPost_ret (zao rfl _ _ _) rfl ?_
 rw [HE.znr.1]
 obtain ⟨rfl,rfl⟩:a4=a3∧d4=d3:=⟨H4.znr.1.1,H4.znr.1.2.2.2⟩
 exact ⟨rfl,rfl⟩
instance (w:World):Nonempty (xR (fun u v=>Below u.heap.size u v) w):=⟨⟨w,Below.refl _ _⟩⟩
theorem J7 (pv y:Nat) (vs:List UInt32) (w:World) (hb:Blk w pv (vs.map W) 329) (hl:vs.length=16) (hy:y < 2) :
  Calls Tryz.prog 255 #[.pointer (some ⟨pv,0,none⟩),.int .i64 y] w fun e w'=>(∃ v,e=.returned v)∧Blk w' pv ((jd y vs 4).map W) 329∧Only pv w w':=by
 have HB:=znq hb
 have HL:=znq (show vs.length=16∧True from ⟨hl,trivial⟩)
 have HO:=znq (Only.refl pv w)
 have m2:IntKind.i64.wrap (2*(y:Int))=2*(y:Int):=IntWalk.i64_in _ (by omega)
 have m3:IntKind.i64.wrap (3*(y:Int))=3*(y:Int):=IntWalk.i64_in _ (by omega)
 clear hb hl
 go_enter Tryz.func255,Tryz.ntmps255
 go_wp2
 go_loopw [8] (fun c wr=>∃ (i:Nat),i≤4∧c=.int .i64 i∧Hid (Blk wr pv ((jd y vs i).map W) 329)∧Hid (Only pv w wr)) (fun c _=>4 - (intOf c).toNat)
 case atStart=>exact ⟨0,by omega,rfl,HB,HO⟩
 case round =>
  clear HB HO
  obtain ⟨i,hi,rfl,HB,HO⟩:=hrel
  by_cases hlt:i < 4
  ·obtain ⟨r1,hr1⟩:∃ r1,r1=(i+y) % 4:=⟨_,rfl⟩
   obtain ⟨r2,hr2⟩:∃ r1,r1=(i+2*y) % 4:=⟨_,rfl⟩
   obtain ⟨r3,hr3⟩:∃ r1,r1=(i+3*y) % 4:=⟨_,rfl⟩
   obtain ⟨b1,hb1⟩:∃ r,r=4+r1:=⟨_,rfl⟩
   obtain ⟨b2,hb2⟩:∃ r,r=8+r2:=⟨_,rfl⟩
   obtain ⟨b3,hb3⟩:∃ r,r=12+r3:=⟨_,rfl⟩
   have e1:((i:Int)+(y:Int)) % 4=(r1:Int):=by omega
   have e2:((i:Int)+2*(y:Int)) % 4=(r2:Int):=by omega
   have e3:((i:Int)+3*(y:Int)) % 4=(r3:Int):=by omega
   have f1:(4:Int)+(r1:Int)=(b1:Int):=by omega
   have f2:(8:Int)+(r2:Int)=(b2:Int):=by omega
   have f3:(12:Int)+(r3:Int)=(b3:Int):=by omega
   obtain ⟨us,hus⟩:∃ us,us=jd y vs i:=⟨_,rfl⟩
   have HE:=znq (show jd y vs (i+1)=Zp us i b1 b2 b3∧True from ⟨by rw [hb1,hb2,hb3,hr1,hr2,hr3,hus];rfl,trivial⟩)
   have HL1:=znq (show us.length=16∧True from ⟨by rw [hus,qT];exact HL.znr.1,trivial⟩)
   have g1:b1 < 16:=by omega
   have g2:b2 < 16:=by omega
   have g3:b3 < 16:=by omega
   rw [← hus] at HB
   clear hus hb1 hb2 hb3 hr1 hr2 hr3
   obtain ⟨f,hf⟩:∃ f,f=quarter ⟨yR us i,yR us b1,yR us b2,yR us b3⟩:=⟨_,rfl⟩
   have HF:=znq (show quarter ⟨yR us i,yR us b1,yR us b2,yR us b3⟩=f∧True from ⟨hf.symm,trivial⟩)
   have HQ:=znq (show Zp us i b1 b2 b3=(((us.set i f.a).set b1 f.b).set b2 f.c).set b3 f.d∧True from ⟨by rw [hf];rfl,trivial⟩)
   clear hf
   have hc0:=fun (x:xR (fun u v=>Below u.heap.size u v) wr.drew)=>(HB.znr.drew.below x.rel HB.znr.drew.lt).cell i _ (kz (qO (l:=us) (i:=i) (by rw [HL1.znr.1];omega)))
   have hc1:=fun (x:xR (fun u v=>Below u.heap.size u v) wr.drew)=>(HB.znr.drew.below x.rel HB.znr.drew.lt).cell b1 _ (kz (qO (l:=us) (i:=b1) (by rw [HL1.znr.1];omega)))
   have hc2:=fun (x:xR (fun u v=>Below u.heap.size u v) wr.drew)=>(HB.znr.drew.below x.rel HB.znr.drew.lt).cell b2 _ (kz (qO (l:=us) (i:=b2) (by rw [HL1.znr.1];omega)))
   have hc3:=fun (x:xR (fun u v=>Below u.heap.size u v) wr.drew)=>(HB.znr.drew.below x.rel HB.znr.drew.lt).cell b3 _ (kz (qO (l:=us) (i:=b3) (by rw [HL1.znr.1];omega)))
   go_wp2_with fail
   refine kW (fun u v=>Below u.heap.size u v) [36,39,42,45] [(0,2),(1,2),(2,2),(3,2),(4,2),(5,2),(6,2),(7,2),(8,2),(9,2),(10,2),(11,2),(12,1),(13,2),(14,2),(15,2),(16,2),(17,1),(18,2),(19,2),(20,2),(21,2),(22,1),(23,2),(24,2),(25,2),(26,2),(27,1),(34,2),(37,2),(40,2),(43,2),(28,0),(29,2),(30,2),(31,2),(32,2),(33,2),(35,2),(36,0),(38,2),(39,0),(41,2),(42,0),(44,2),(45,0)] (fun a=>Below.refl _ a) (fun _ _ _ h1 h2=>h1.trans (h2.mono h1.size)) (by kernel_rfl) (by kernel_rfl) ?_
   rintro w1 rfl
   have HB:=znq HB.znr.drew
   have HO:=znq (Zm HO.znr)
   refine mqN ?_
   clear hc0 hc1 hc2 hc3
   refine yS rfl (by rfl) (fun K hK=>?_)
   go_simp
   refine (ze4 ⟨yR us i,yR us b1,yR us b2,yR us b3⟩ _).mono ?_
   rintro e w2 ⟨rfl,rfl⟩
   rw [HF.znr.1]
   unfold zkn
   go_simp
   refine hK _ _ (fun _=>Below.refl _ _) ?_
   clear hK K
   refine mqN ?_
   refine yS rfl (by rfl) (fun K hK=>?_)
   refine HB.znr.nO (v:=W f.a) rfl rfl rfl yt rfl rfl (by rw [yf,HL1.znr.1];omega) (fun w2 hb2 ho2=>hK _ _ (fun h=>by cases h) ?_)
   clear hK K
   rw [xI] at hb2
   have HB:=znq hb2
   have HO:=znq (HO.znr.trans ho2)
   clear hb2 ho2
   go_simp
   refine mqN ?_
   refine yS rfl (by rfl) (fun K hK=>?_)
   refine HB.znr.nO (v:=W f.b) rfl rfl rfl yt rfl rfl (by rw [yf,Vo,HL1.znr.1];omega) (fun w2 hb2 ho2=>hK _ _ (fun h=>by cases h) ?_)
   clear hK K
   rw [xI] at hb2
   have HB:=znq hb2
   have HO:=znq (HO.znr.trans ho2)
   clear hb2 ho2
   go_simp
   refine mqN ?_
   refine yS rfl (by rfl) (fun K hK=>?_)
   refine HB.znr.nO (v:=W f.c) rfl rfl rfl yt rfl rfl (by rw [yf,Vo,Vo,HL1.znr.1];omega) (fun w2 hb2 ho2=>hK _ _ (fun h=>by cases h) ?_)
   clear hK K
   rw [xI] at hb2
   have HB:=znq hb2
   have HO:=znq (HO.znr.trans ho2)
   clear hb2 ho2
   go_simp
   refine mqN ?_
   refine yS rfl (by rfl) (fun K hK=>?_)
   refine HB.znr.nO (v:=W f.d) rfl rfl rfl yt rfl rfl (by rw [yf,Vo,Vo,Vo,HL1.znr.1];omega) (fun w2 hb2 ho2=>hK _ _ (fun h=>by cases h) ?_)
   clear hK K
   rw [xI,← HQ.znr.1,← HE.znr.1] at hb2
   have HB:=znq hb2
   have HO:=znq (HO.znr.trans ho2)
   clear hb2 ho2
   go_simp
   refine jA ?_
   go_wp2
   go_roundw
   case rel=>exact ⟨i+1,by omega,by go_num,HB,HO⟩
   case measure=>simp [intOf];omega
  ·obtain rfl:i=4:=by omega
   go_wp2
   go_end0
   exact ⟨⟨_,rfl⟩,HB.znr,HO.znr⟩
end Go.Proofs.YtamdifhibogdiaaGreatDoor
namespace Go.Proofs.YtamdifhibogdiaaGreatDoor
open RowKit Mem Ops Cells Oct Trn Cha
attribute [local irreducible] zE zN zO zM yJ
theorem qt:(Tryz.prog.info? 329).map (·.zero)=some (some (.agg ((wh 16 (0:UInt32)).map W).toArray)):=by kernel_rfl
theorem yT (l:List UInt32):∀ v∈l.map W,v.oneCell'=true:=by
 intro v hv
 obtain ⟨x,_,rfl⟩:=ug.1 hv
 rfl
def YX (r:Nat):Prop:=r=8∨r=12∨r=20
theorem zc6 (r:Nat) (w:World) (hr:YX r):Calls Tryz.prog 224 #[.int .i64 r] w fun e w'=>e=.returned (.int .i64 0)∧w=w':=by
 rcases hr with rfl | rfl | rfl
 ·go_enter Tryz.func224,Tryz.ntmps224
  go_wp2
  go_ret
  exact ⟨rfl,rfl⟩
 ·go_enter Tryz.func224,Tryz.ntmps224
  go_wp2
  go_ret
  exact ⟨rfl,rfl⟩
 ·go_enter Tryz.func224,Tryz.ntmps224
  go_wp2
  go_ret
  exact ⟨rfl,rfl⟩
theorem zc7 (vs:List UInt32) (r:Nat) (w:World) (hl:vs.length=16) (hr:YX r) :
  Calls Tryz.prog 226 #[.agg (vs.map W).toArray,.int .i64 r] w fun e w'=>e=.returned (.agg ((xQ vs (r / 2)).map W).toArray)∧Below w.heap.size w w':=by
 have HL:=znq (show vs.length=16∧True from ⟨hl,trivial⟩)
 have HS:=znq (St.start w)
 obtain ⟨h,hh⟩:∃ h,h=r / 2:=⟨_,rfl⟩
 have hd:(r:Int).tdiv 2=(h:Int):=by rw [Int.tdiv_eq_ediv_of_nonneg (by omega)];omega
 have hb:h≤10:=by unfold YX at hr;omega
 rw [← hh]
 clear hh hr hl
 go_enter Tryz.func226,Tryz.ntmps226
 go_wp2_with (refine zh 329 _ (vs.map W) _ rfl rfl rfl rfl ?_)
 intro w1 hb hbel;have HS:=znq (HS.znr.push hb hbel);have hlt1:=hb.lt;clear hb hbel
 go_wp2_with (refine ze 329 ((wh 16 (0:UInt32)).map W) _ rfl rfl qt rfl ?_)
 intro w2 hb hbel;have HS:=znq (HS.znr.push hb hbel);have hlt2:=hb.lt;clear hb hbel
 generalize hbb:w.heap.size=bb at *
 generalize w1.heap.size=b1 at *
 have HBB:=znq hbb
 clear hbb
 go_wp2
 go_loopw [7] (fun c wr=>∃ (i:Nat),i≤h∧c=.int .i64 i∧Hid (St w bb wr [(b1,(wh 16 (0:UInt32)).map W,329),(bb,(xQ vs i).map W,329)])) (fun c _=>h - (intOf c).toNat)
 case atStart=>exact ⟨0,by omega,rfl,HS⟩
 case round =>
  clear HS
  obtain ⟨i,hi,rfl,HS⟩:=hrel
  by_cases hlt:i < h
  ·have HM:=znq (show (xQ vs i).length=16∧True from ⟨by rw [zio];exact HL.znr.1,trivial⟩)
   have HM2:=znq (show (jd 0 (xQ vs i) 4).length=16∧True from ⟨by rw [qT];exact HM.znr.1,trivial⟩)
   go_wp2_with fail
   refine (J7 bb 0 (xQ vs i) _ (HS.znr.get 1 rfl) HM.znr.1 (by omega)).mono ?_
   rintro e w3 ⟨⟨v3,rfl⟩,hb3,ho3⟩
   have HS:=znq (HS.znr.change 1 hb3 ho3 (by omega) (by simp;omega))
   clear hb3 ho3
   go_wp2_with fail
   refine (J7 bb 1 (jd 0 (xQ vs i) 4) _ (HS.znr.get 1 rfl) HM2.znr.1 (by omega)).mono ?_
   rintro e w4 ⟨⟨v4,rfl⟩,hb4,ho4⟩
   have HS:=znq (HS.znr.change 1 hb4 ho4 (by omega) (by simp;omega))
   clear hb4 ho4
   go_wp2
   go_roundw
   case rel=>exact ⟨i+1,by omega,by go_num,HS⟩
   case measure=>simp [intOf];omega
  ·obtain rfl:h=i:=by omega
   have HM:=znq (show (xQ vs h).length=16∧True from ⟨by rw [zio];exact HL.znr.1,trivial⟩)
   go_wp2_with (first | (refine (HS.znr.get 1 rfl).mP rfl rfl rfl yW (by rw [yf];exact HM.znr.1) ?_) | (refine (HS.znr.get 0 rfl).mM rfl rfl rfl (cs:=(xQ vs h).map W) rfl yW rfl (by rw [yf];exact HM.znr.1) (yT _) ?_))
   intro w5 hb5 ho5
   have HE:=znq (zk HS.znr.bel ho5 (by omega))
   clear ho5
   go_wp2
   refine hb5.result rfl rfl rfl yW (by rw [yf];exact HM.znr.1) ⟨rfl,?_⟩
   rw [HBB.znr]
   exact HE.znr
end Go.Proofs.YtamdifhibogdiaaGreatDoor

/-
  Texts of this claim, one behind the other.
-/
import Derived.Test.YtamdifhibogdiaaGreatDoorX1
import Derived.Test.YtamdifhibogdiaaGreatDoorX11
import Derived.Test.YtamdifhibogdiaaGreatDoorX9
import Derived.Test.YtamdifhibogdiaaGreatDoorX10
import Derived.Lib.Hide
set_option linter.unusedVariables false
set_option linter.unusedSimpArgs false
set_option maxHeartbeats 16000000
set_option maxRecDepth 100000
open List renaming append_assoc→QA,drop_eq_nil_of_le→Yx,getElem?_eq_some_iff→kT,length_drop→XQ,length_map→yf,length_take→Ku,map_take→bN,mem_append→gP,mem_cons→uB,mem_of_getElem?→xU,take_add_one→fA,take_of_length_le→Y2
open Nat renaming le_refl→xc,lt_succ_self→gK
open UInt8 renaming toBitVec→ZO,toBitVec_inj→jg,toBitVec_ofNat→vW
namespace Go.Oct
open Ops
theorem zpu (a b:UInt8):or8 a b=0↔a=0∧b=0:=by
 unfold or8
 constructor
 ·intro h
  have h1:=congrArg ZO h
  simp only [UInt8.toBitVec_or,vW] at h1
  obtain ⟨h2,h3⟩:=BitVec.or_eq_zero_iff.1 h1
  exact ⟨jg.1 h2,jg.1 h3⟩
 ·rintro ⟨rfl,rfl⟩
  rfl
theorem zob (a b:UInt8):ya a b=0↔a=b:=by
 unfold ya
 constructor
 ·intro h
  have h1:=congrArg ZO h
  simp only [UInt8.toBitVec_xor,vW] at h1
  exact jg.1 (BitVec.xor_eq_zero_iff.1 h1)
 ·rintro rfl
  simp
def Seen (a b:List UInt8) (i:Nat) (u:UInt8):Prop:=u=0↔a.take i=b.take i
theorem Seen.zero (a b:List UInt8):Seen a b 0 0:=by simp [Seen]
theorem Seen.step {a b:List UInt8} {i:Nat} {u x y:UInt8} (h:Seen a b i u) (hx:a[i]? = some x) (hy:b[i]? = some y):Seen a b (i+1) (or8 u (ya x y)):=by
 unfold Seen at *
 rw [zpu,zob,h,fA,fA,hx,hy]
 have hl:(a.take i).length=(b.take i).length:=by
  have h1:=(kT.1 hx).1
  have h2:=(kT.1 hy).1
  simp;omega
 constructor
 ·rintro ⟨h1,rfl⟩;rw [h1]
 ·intro h1
  obtain ⟨h2,h3⟩:=List.append_inj h1 hl
  simp at h3
  exact ⟨h2,h3⟩
theorem Seen.all {a b:List UInt8} {n:Nat} {u:UInt8} (h:Seen a b n u) (ha:a.length=n) (hb:b.length=n):((u.toNat:Int)==0)=decide (a=b):=by
 unfold Seen at h
 rw [Y2 (by omega),Y2 (by omega)] at h
 by_cases hab:a=b
 ·rw [h.2 hab];simp [hab]
 ·have hu:u.toNat≠0:=fun e=>hab (h.1 (UInt8.toNat_inj.1 e))
  simp [hab];omega
end Go.Oct
namespace Go.Proofs.YtamdifhibogdiaaGreatDoor
open RowKit Mem Ops Cells Oct Gf Trn Aes Ring Ezk Ezh Ezt Aez ru Fl
attribute [local irreducible] zE zN zO zM yu
theorem _root_.Go.Proofs.YtamdifhibogdiaaGreatDoor.pQ.below {w w':World} (h:pQ w) (hb:Below w.heap.size w w'):pQ w':=by
 have e1:sj w' 0=sj w 0:=by unfold sj;rw [hb.block _ h.mixes.lt]
 have e2:sj w' 1=sj w 1:=by unfold sj;rw [hb.block _ h.unmixes.lt]
 exact ⟨by rw [e1];exact h.mixes.below hb h.mixes.lt,by rw [e2];exact h.unmixes.below hb h.unmixes.lt⟩
theorem yL (w:World) (ao:Option Addr) (n cap:Nat) (bs:List UInt8) (hn:bs.length=n) (hl:zr w ao (bs.map B)):(convert 22 9 (.slice ao n cap)).run Tryz.prog w=.ok (.string (str bs)) w :=
 zd2 (P:=Tryz.prog) w 22 9 5 Tryz.underlying22 Tryz.underlying5 Tryz.underlying9 ao n cap bs hn hl
theorem zp2 (a1 a2:Option Addr) (n1 n2 c1 c2:Nat) (x1 x2:List UInt8) (w:World) (h1:x1.length=n1) (h2:x2.length=n2) (hb:n1≤1000000) (hl1:zr w a1 (x1.map B)) (hl2:zr w a2 (x2.map B)) :
  Calls Tryz.prog 98 #[.slice a1 n1 c1,.slice a2 n2 c2] w fun e w'=>e=.returned (.bool (decide (x1=x2)))∧Below w.heap.size w w':=by
 by_cases he:n1=n2
 ·subst he
  have hd:((n1:Int)==n1)=true:=by simp
  have HL1:=znq hl1
  have HL2:=znq hl2
  have H1:=znq h1
  have H2:=znq h2
  clear hl1 hl2 h1 h2
  go_enter Tryz.func98,Tryz.ntmps98
  go_wp2
  go_loopw [5,14] (fun z c wr=>∃ (i:Nat) (u:UInt8),i≤n1∧c=.int .i64 i∧z=B u∧Hid (Seen x1 x2 i u)∧Hid (Below w.heap.size w wr)) (fun _ c _=>n1 - (intOf c).toNat)
  case atStart=>exact ⟨0,0,by omega,rfl,rfl,znq (Seen.zero _ _),znq (Below.refl _ _)⟩
  case round =>
   obtain ⟨i,u,hi,rfl,rfl,HSE,HB⟩:=hrel
   by_cases hlt:i < n1
   ·obtain ⟨v1,hv1⟩:∃ v1,x1[i]? = some v1:=⟨x1[i]'(by rw [H1.znr];exact hlt),by simp⟩
    obtain ⟨v2,hv2⟩:∃ v2,x2[i]? = some v2:=⟨x2[i]'(by rw [H2.znr];exact hlt),by simp⟩
    obtain ⟨b1,o1,rfl,hc1⟩:=(HL1.znr.below HB.znr) _ _ (zU hv1)
    obtain ⟨b2,o2,rfl,hc2⟩:=(HL2.znr.below HB.znr) _ _ (zU hv2)
    have hc1:=fun (x:zG wr.drew)=>(x.later.cell (p:=⟨b1,o1+i,none⟩) (block_lt_of_cell hc1)).trans hc1
    have hc2:=fun (x:zG wr.drew)=>(x.later.cell (p:=⟨b2,o2+i,none⟩) (block_lt_of_cell hc2)).trans hc2
    have HSE:=znq (HSE.znr.step hv1 hv2)
    clear hv1 hv2
    go_wp2_with fail
    refine zn [0,1,2,3,4,5,6,7,8,9,10,11] (by kernel_rfl) (by kernel_rfl) ?_
    rintro w2 rfl
    refine mqR ?_
    refine zo ?_
    go_wp2
    go_roundw
    case rel=>exact ⟨i+1,_,by omega,by go_num,rfl,HSE,znq HB.znr.drew⟩
    case measure=>simp [intOf];omega
   ·obtain rfl:i=n1:=by omega
    have HD:=HSE.znr.all H1.znr H2.znr
    go_wp2
    go_ret
    exact ⟨rfl,HB.znr⟩
 ·have hd:((n1:Int)==n2)=false:=by simp;omega
  have hne:¬ x1=x2:=by rintro rfl;omega
  clear hl1 hl2 h1 h2
  go_enter Tryz.func98,Tryz.ntmps98
  go_wp2
  go_ret
  exact ⟨by rw [decide_eq_false hne];rfl,Below.refl _ _⟩
theorem zpv (w:World):Calls Tryz.prog 174 #[.int .i64 16] w fun e w'=>e=.returned (.int .i64 0)∧w=w':=by
 go_enter Tryz.func174,Tryz.ntmps174
 go_wp2
 go_ret
 exact ⟨rfl,rfl⟩
theorem zpf (ao:Option Addr) (n cap:Nat) (bs:List UInt8) (w:World) (hn:bs.length=n) (hb:n≤1000) (hl:zr w ao (bs.map B)) :
  Calls Tryz.prog 135 #[.int .i64 16,.slice ao n cap,.slice none 0 0] w fun e w'=>∃ a ss,e=.returned (.tuple #[.slice (some a) 2 2,.int .i64 0])∧ss.length=2∧rowOf ss=vb 16 bs []∧xY w' (some a) ss∧Below w.heap.size w w':=by
 have HN:=znq hn
 have HL:=znq hl
 clear hn hl
 go_enter Tryz.func135,Tryz.ntmps135
 go_wp2_with fail
 refine (zpv _).mono ?_
 rintro e w0 ⟨rfl,rfl⟩
 go_wp2_with (at_make;refine jJ 22 5 (.int .u8 0) 1 16 rfl rfl rfl rfl Tryz.underlying22 yq rfl rfl rfl (by omega) (by unfold maxLen;omega) ?_)
 intro w1 hb1 nC
 have hb1:Blk w1 w.heap.size ((zf 16).map B) 5:=hb1
 have hc:=hb1.cell 15 (B 0) rfl
 have hf:=hb1.free 15
 have HB1:=znq (show Blk (w1.setCell ⟨w.heap.size,15,none⟩ (B 128)) w.heap.size ((zf 15++[128]).map B) 5 from hb1.set 15 (B 128))
 have HL1:=znq (HL.znr.below (nC.setCell (p:=⟨w.heap.size,15,none⟩) (xc _) (B 128)))
 have HBE:=znq (nC.setCell (p:=⟨w.heap.size,15,none⟩) (xc _) (B 128))
 clear hb1 nC
 go_wp2_with fail
 generalize hbb:w.heap.size=bb at *
 have HBB:=znq hbb
 have hz0:bb≤(w1.setCell ⟨bb,15,none⟩ (B 128)).heap.size:=by have:=HBE.znr.size;omega
 clear hbb
 refine (YR ao n cap (bs.map B) _ (by rw [yf];exact HN.znr) (by omega) HL1.znr (zg _)).mono ?_
 rintro e w3 ⟨v3,rfl,hown3,mY⟩
 obtain ⟨ao3,JK,rfl,JL,_,hl3⟩:=zw hown3
 have HB1:=znq (HB1.znr.below mY HB1.znr.lt)
 have HBE:=znq (HBE.znr.trans (mY.mono hz0))
 have hz3:bb≤w3.heap.size:=Nat.le_trans hz0 mY.size
 have HL3:=znq hl3
 clear hown3 hl3 mY hc hf HL1 HL
 simp only [id]
 go_wp2
 generalize hw4:w3.alloc (.cells #[.slice (some ⟨bb,0,none⟩) 16 16,.slice ao3 n JK] 22)=w4
 have HSS:=znq (show xY w4 (some ⟨w3.heap.size,0,none⟩) [⟨some ⟨bb,0,none⟩,16,zf 15++[128]⟩,⟨ao3,JK,bs⟩] from by
  rw [← hw4]
  refine ⟨?_,?_⟩
  ·have:=(Blk.new w3 [.slice (some ⟨bb,0,none⟩) 16 16,.slice ao3 n JK] 22).lies
   simpa [Str.val,HN.znr,zd] using this
  ·intro s hs
   simp at hs
   rcases hs with rfl | rfl
   ·exact ⟨by simp [zd],(HB1.znr.lies).below (zD _ _)⟩
   ·exact ⟨by rw [HN.znr];exact JL,HL3.znr.below (zD _ _)⟩)
 have HBE:=znq (show Below bb w w4 by rw [← hw4];exact HBE.znr.trans ((zD _ _).mono hz3))
 clear hw4
 go_loopw [10,30] (fun z c wr=>z=.slice (some ⟨w3.heap.size,0,none⟩) 2 2∧c=.int .i64 0∧w4=wr) (fun _ _ _=>0)
 case atStart=>exact ⟨rfl,rfl,rfl⟩
 case round =>
  obtain ⟨rfl,rfl,rfl⟩:=hrel
  go_wp2
  go_ret2
  exact ⟨_,_,rfl,rfl,by simp [rowOf,vb],HSS.znr,by rw [HBB.znr];exact HBE.znr⟩
end Go.Proofs.YtamdifhibogdiaaGreatDoor
namespace Go.Cells
open RowKit
theorem Blk.zaN {P:Program} {w:World} {b n:Nat} {vs:List Value} {ty':TypeId} (h:Blk w b vs ty') {fn:Func} {R:Ending→World→Prop} {a:Act} {p t:Tmp} {ty:TypeId} {v:Value}
  (hf:fn.results=#[.cell p ty,.tmp t]) (hd:a.defers=[]) (hp:a.tmps.getD p undef=.pointer (some ⟨b,0,none⟩)) (ht:a.tmps.getD t undef=v) (hr:Row P ty n) (hn:vs.length=n)
  (k:R (.returned (.tuple #[.agg vs.toArray,v])) w):bodyPost P fn R .ret a w:=by
 obtain ⟨d,hu,hd',hi⟩:=hr.open
 have hrun:(results fn a.tmps).run P w=.ok (.tuple #[.agg vs.toArray,v]) w:=by
  have hp':a.tmps[p]?.getD undef=.pointer (some ⟨b,0,none⟩):=by simpa using hp
  have ht':a.tmps[t]?.getD undef=v:=by simpa using ht
  have h1:=run_loadVar_row (P:=P) w b ty' ty vs.toArray (0,0) d h hu (by cases d <;> simp_all [TypeDesc.isRow]) (by rw [hi];simp [hn])
  simp [results,hf,hp',ht',asAddr,h1]
 exact bodyPost_ret hrun hd k
theorem Blk.zch {P:Program} {w:World} {b:Nat} {vs:List Value} {ty':TypeId} (h:Blk w b vs ty') (i:Nat) (v:Value) {ops:Array Oper} {rest:List Oper} {op:Oper} {a:Act} {Q:Exit→Act→World→Prop} {ty:TypeId} {x y:Operand}
  (hgd:op.guard=none) (ho:op.op=.store ty x y) (hx:a.eval x=.pointer (some ⟨b,i,none⟩)) (hy:a.eval y=v) (hs:(P.info? ty).map (·.size)=some 1) (hv:v.cells=#[v]) (h1:v.oneCell'=true) (hi:i < vs.length)
  (k:∀ w',Blk w' b (vs.set i v) ty'→Only b w w'→wpList P ops Q rest (a.put op.dst undef) w'):wpList P ops Q (op::rest) a w :=
 wpList_plain hgd fun _ hK=>h.nO ho hx hy hs hv h1 hi (fun w' hb hd=>hK _ _ (k w' hb hd))
end Go.Cells
namespace Go.Mem
open RowKit Cells Ops
theorem ZN {P:Program} (w:World) (t e:TypeId) (size:Nat) (ht:P.underlying t=some (.slice e)) (hs:(P.info? e).map (·.size)=some size) (ao:Option Addr) (len cap n:Nat) (h:n≤cap) :
  (Instr.slice t (.slice ao len cap) none (some (.int .i64 (n:Int))) none).run P w=.ok (.slice ao n cap) w:=by
 cases hq:P.info? e with
 | none=>rw [hq] at hs;cases hs
 | some x =>
  have hx:x.size=size:=by rw [hq] at hs;simpa using hs
  cases ao with
  | none=>simp [Instr.slice,Instr.sliceBounds,Instr.sliceBound,run_underlying ht,sizeOf,typeInfo,hq,hx,asIntOf,h]
  | some a=>cases a;simp [Instr.slice,Instr.sliceBounds,Instr.sliceBound,run_underlying ht,sizeOf,typeInfo,hq,hx,asIntOf,h,Addr.add]
end Go.Mem
namespace Go.Cells
open RowKit
theorem xZ {P:Program} {w:World} {ops:Array Oper} {rest:List Oper} {o:Oper} {a:Act} {Q:Exit→Act→World→Prop} (t:TypeId) (parts:Array (Nat×Operand)) (vs:List (Nat×Value)) (cells:Array Value)
  (hg:o.guard=none) (hop:o.op=.build t parts) (hp':(parts.toList.map fun p=>(p.1,a.eval p.2))=vs) (hb:P.built t vs=some cells)
  (k:wpList P ops Q rest (a.put o.dst (.agg cells)) w):wpList P ops Q (o::rest) a w:=by
 have hp:(parts.map fun (i,x)=>(i,a.eval x))=vs.toArray:=by
  apply Array.toList_inj.1
  rw [Array.toList_map]
  exact hp'
 refine wpList_plain hg fun K hK=>?_
 have hrun:=run_build (P:=P) w t vs.toArray cells (by simpa using hb)
 unfold Oper.wp
 simp only [execOp,hop,hp,Sem.run_bind,hrun,Result.andThen_ok,Sem.run_pure]
 exact hK _ _ k
end Go.Cells
namespace Go.Proofs.YtamdifhibogdiaaGreatDoor
open RowKit Mem Ops Cells Oct Gf Trn Aes Ring Ezk Ezh Ezt Ezc ru Fl
attribute [local irreducible] zE zN zO zM yu
theorem yN (ao:Option Addr) (n cap:Nat) (ks:List (List UInt8)) (w:World) (hn:ks.length=n) (hnb:n≤1099511627776) (hk:yB 16 w ao ks) :
  Calls Tryz.prog 239 #[.slice ao n cap] w fun e w'=>e=.returned (.agg ((plusB ks).map B).toArray)∧Below w.heap.size w w':=by
 have HN:=znq hn
 have HK:=znq hk
 have HS:=znq (St.start w)
 have HZ:=znq (zd 16)
 clear hn hk
 go_enter Tryz.func239,Tryz.ntmps239
 go_wp2_with (refine ze 59 ((zf 16).map B) _ rfl rfl zj rfl ?_)
 intro w1 hb hbel;have HS:=znq (HS.znr.push hb hbel);have hlt1:=hb.lt;clear hb hbel
 go_wp2_with (refine ze 59 ((zf 16).map B) _ rfl rfl zj rfl ?_)
 intro w2 hb hbel;have HS:=znq (HS.znr.push hb hbel);have hlt2:=hb.lt;clear hb hbel
 generalize hbb:w.heap.size=bb at *
 generalize w1.heap.size=br at *
 have HBB:=znq hbb
 clear hbb
 go_wp2
 go_loopw [9] (fun c wr=>∃ (i:Nat) (y:List UInt8),i≤n∧c=.int .i64 i∧Hid (y.length=16)∧Hid ((ks.drop i).foldl both y=plusB ks∧True)∧Hid (St w bb wr [(br,y.map B,59),(bb,(zf 16).map B,59)])) (fun c _=>n - (intOf c).toNat)
 case atStart=>exact ⟨0,zf 16,by omega,rfl,HZ,⟨rfl,trivial⟩,HS⟩
 case round =>
  clear HS
  obtain ⟨i,y,hi,rfl,HY,HE,HS⟩:=hrel
  have HYM:=znq (show (y.map B).length=16 by rw [yf];exact HY.znr)
  by_cases hlt:i < n
  ·have hget:ks[i]? = some (key ks i):=kB (by rw [HN.znr];exact hlt)
   obtain ⟨kb,nI,rfl,hkb,hr⟩:=(HK.znr.below (by rw [HBB.znr];exact HS.znr.bel)).range (by omega) hget
   have HKL:=znq (show (key ks i).length=16 from HK.znr.each _ (xU hget))
   have tY:=znq (show ((key ks i).map B).length=16 by rw [yf];exact HKL.znr)
   have HE:=znq (show (ks.drop (i+1)).foldl both (both y (key ks i))=plusB ks∧True from ⟨by
    rw [← HE.znr.1,List.drop_eq_getElem_cons (l:=ks) (i:=i) (by rw [HN.znr];exact hlt),List.foldl_cons]
    congr 2
    have:=List.getElem?_eq_getElem (l:=ks) (i:=i) (by rw [HN.znr];exact hlt)
    rw [hget] at this
    exact Option.some.inj this,trivial⟩)
   have HR:=znq hr
   generalize key ks i=k at *
   clear hget hr
   go_wp2_with (first | (refine wpList_load_mid rfl 59 (.tmp 11) rfl kb (nI+i*16) rfl _ _ HR.znr Tryz.underlying59 rfl (by rw [tY.znr];exact zc.2) ?_) | (refine ze 59 ((zf 16).map B) _ rfl rfl zj rfl ?_))
   intro w3 hb hbel;have hz1:=(HS.znr.get 0 rfl).lt;have hz0:=(HS.znr.get 1 rfl).lt;have HS:=znq (HS.znr.push hb hbel);have hlt3:=hb.lt;clear hb hbel
   generalize wr.heap.size=bk at *
   go_wp2_with (refine (HS.znr.get 0 rfl).mM rfl rfl rfl rfl zc (by simp [zd]) tY.znr (zg _) ?_)
   intro w4 hb4 ho4
   have HS:=znq (HS.znr.change 0 hb4 ho4 (by omega) (by simp;omega))
   clear hb4 ho4
   go_wp2
   go_loopw [13] (fun c wr=>∃ (j:Nat) (l:List UInt8),j≤16∧c=.int .i64 j∧Hid (l.length=16)∧Hid (∀ i,i < j→l[i]? = some (ya (at8 y i) (at8 k i)))∧Hid (∀ i,j≤i→l[i]? = y[i]?)∧Hid (St w bb wr [(bk,k.map B,59),(br,l.map B,59),(bb,(zf 16).map B,59)])) (fun c _=>16 - (intOf c).toNat)
   case atStart=>exact ⟨0,y,by omega,rfl,HY,fun i hi=>absurd hi (by omega),fun i _=>rfl,HS⟩
   case round =>
    clear HS
    obtain ⟨j,l,hj,rfl,HLL,HL1,HL2,HS⟩:=hrel
    by_cases hlt2:j < 16
    ·have hd:decide ((j:Int) < 16)=true:=by simp;omega
     have hx:l[j]? = some (at8 y j):=by rw [HL2.znr j (xc _)];exact q4 (by rw [HY.znr];omega)
     have hc1:=fun (x:zG wr.drew)=>((HS.znr.drew.later x.later).get 1 rfl).cell j _ (zU hx)
     have hc2:=fun (x:zG wr.drew)=>((HS.znr.drew.later x.later).get 0 rfl).cell j _ (zU (q4 (b:=k) (i:=j) (by rw [HKL.znr];omega)))
     clear hx
     go_wp2_with fail
     refine zn [0,1,2,3,4,5,6,7,8] (by kernel_rfl) (by kernel_rfl) ?_
     rintro w5 rfl
     refine mqR ?_
     clear hc1 hc2
     refine zp rfl rfl (by rfl) (fun K hK=>?_)
     refine (HS.znr.drew.get 1 rfl).nO (v:=B (ya (at8 y j) (at8 k j))) rfl rfl rfl zl rfl rfl (by rw [yf,HLL.znr];omega) (fun w6 hb6 ho6=>hK _ _ ?_)
     clear hK K
     rw [ym] at hb6
     have HS:=znq (HS.znr.drew.change 1 hb6 ho6 (by omega) (by simp;omega))
     clear ho6 hb6
     go_simp
     refine zo ?_
     go_wp2
     go_roundw
     case rel=>exact ⟨j+1,_,by omega,rfl,(by rw [List.length_set];exact HLL.znr),(kO hlt2 HLL.znr HL1.znr HL2.znr).1,(kO hlt2 HLL.znr HL1.znr HL2.znr).2,HS⟩
     case measure=>simp [intOf];omega
    ·obtain rfl:j=16:=by omega
     have hle:=YN HLL.znr HL1.znr
     rw [hle] at HS
     have HS:=znq HS.znr.tail
     clear hle
     go_wp2
     go_roundw
     case rel=>exact ⟨i+1,_,by omega,by go_num,zB _ _,HE,HS⟩
     case measure=>simp [intOf];omega
  ·obtain rfl:i=n:=by omega
   have HE:=znq (show y=plusB ks∧True from ⟨by rw [← HE.znr.1,Yx (by rw [HN.znr];omega)];rfl,trivial⟩)
   go_wp2_with (first | (refine (HS.znr.get 0 rfl).mP rfl rfl rfl zc HYM.znr ?_) | (refine (HS.znr.get 1 rfl).mM rfl rfl rfl rfl zc (by rw [yf];exact zd 16) HYM.znr (zg _) ?_))
   intro w6 hb6 ho6
   have mQ:=zk HS.znr.bel ho6 (by omega)
   go_wp2
   refine hb6.result rfl rfl rfl zc HYM.znr ⟨by rw [HE.znr.1],?_⟩
   rw [HBB.znr]
   exact mQ
theorem zcb (ao:Option Addr) (n cap ahead:Nat) (m:List UInt8) (w:World) (hn:m.length=n) (h16:16≤ahead) (ha:ahead≤n) (hc:n≤cap) (hb:n≤1000000) (hl:zr w ao (m.map B)) :
  Calls Tryz.prog 262 #[.slice ao n cap,.int .i64 ahead] w fun e w'=>e=.returned (.agg ((xw m ahead).map B).toArray)∧Below w.heap.size w w':=by
 have HN:=znq hn
 have HL:=znq hl
 have HS:=znq (St.start w)
 have e1:(n:Int) - (ahead:Int)=((n - ahead:Nat):Int):=by omega
 have hf16:fl 16=4625196817309499392:=by decide +kernel
 have HC:=znq (show wC (floatOfInt .f64 ((n - ahead:Nat):Int)) 4625196817309499392 n=some (n - ahead,16) from by rw [← hf16];exact jR (n - ahead) 16 n (by omega) (by omega))
 have HX:=znq (show block ((m.drop (n - ahead)).take 16)=xw m ahead∧True from ⟨by unfold xw;rw [hn],trivial⟩)
 have HXL:=znq (show (xw m ahead).length=16 by unfold xw;exact zA _)
 obtain ⟨z,hz⟩:∃ z,z=n - ahead:=⟨_,rfl⟩
 rw [← hz] at e1 HC HX
 have HZL:=znq (show ((m.drop z).take 16).length=16 by simp;omega)
 clear hn hl hz hf16
 go_enter Tryz.func262,Tryz.ntmps262
 go_wp2_with (refine ze 59 ((zf 16).map B) _ rfl rfl zj rfl ?_)
 intro w1 hb hbel;have HS:=znq (HS.znr.push hb hbel);have hlt1:=hb.lt;clear hb hbel
 generalize hbb:w.heap.size=bb at *
 have HBB:=znq hbb
 clear hbb
 go_wp2_with fail
 refine (zb9 ao n cap m (floatOfInt .f64 (z:Int)) 4625196817309499392 z 16 _ HN.znr hc (by omega) (HL.znr.below (HS.znr.old HBB.znr)) HC.znr).mono ?_
 rintro e w2 ⟨v2,rfl,hown,hbel⟩
 obtain ⟨ao2,cap2,rfl,hc2,_,hl2⟩:=zw hown
 have HS:=znq (HS.znr.later hbel)
 have HL2:=znq hl2
 clear hown hbel hl2
 go_wp2_with fail
 refine (yQ ao2 16 cap2 ((m.drop z).take 16) _ HZL.znr HL2.znr).mono ?_
 rintro e w3 ⟨rfl,hbel⟩
 have HS:=znq (HS.znr.later hbel)
 rw [HX.znr.1]
 clear hbel HL2 hc2
 go_wp2_with (refine (HS.znr.get 0 rfl).mM rfl rfl rfl rfl zc (by rw [yf];exact zd 16) (by rw [yf];exact HXL.znr) (zg _) ?_)
 intro w4 hb4 ho4
 have nD:=zk HS.znr.bel ho4 (xc _)
 go_wp2
 refine hb4.result rfl rfl rfl zc (by rw [yf];exact HXL.znr) ⟨rfl,?_⟩
 rw [HBB.znr]
 exact nD
def z4 (pv uv vv:Value) (x y:List UInt8):List Value:=pv::uv::vv::(x.map B++y.map B)
theorem zY {pv uv vv:Value} {x y:List UInt8} (hx:x.length=16) (hy:y.length=16):(z4 pv uv vv x y).length=35:=by simp [z4,hx,hy]
theorem Qe {pv uv vv:Value} {x y:List UInt8} (hp:pv.oneCell'=true) (hu:uv.oneCell'=true) (hv:vv.oneCell'=true):∀ z∈z4 pv uv vv x y,z.oneCell'=true:=by
 intro z hz
 simp only [z4,uB,gP] at hz
 rcases hz with rfl | rfl | rfl | hz | hz
 ·exact hp
 ·exact hu
 ·exact hv
 ·exact zg _ _ hz
 ·exact zg _ _ hz
theorem yG:Row Tryz.prog 343 35:=⟨by kernel_rfl,by kernel_rfl⟩
theorem vq:(Tryz.prog.info? 343).map (·.zero)=some (some (.agg (z4 (.slice none 0 0) (.slice none 0 0) (.slice none 0 0) (zf 16) (zf 16)).toArray)):=by kernel_rfl
theorem VE:(Tryz.prog.info? 363).map (fun i=>(i.zero,i.size,i.bytes))=some (some (.agg ((zf 32).map B).toArray),32,32):=by kernel_rfl
theorem zcc:(Tryz.prog.info? 363).map (fun i=>(i.zero,i.size))=some (some (.agg ((zf 32).map B).toArray),32):=by kernel_rfl
theorem vt:Row Tryz.prog 363 32:=⟨by kernel_rfl,by kernel_rfl⟩
theorem VF:(Tryz.prog.info? 363).map (·.zero)=some (some (.agg ((zf 32).map B).toArray)):=by kernel_rfl
theorem qo:(Tryz.prog.info? 22).map (·.size)=some 1:=by kernel_rfl
theorem JC:(Tryz.prog.info? 341).map (·.size)=some 1:=by kernel_rfl
theorem XD (a b:List UInt8) (ha:a.length=16) (hb:b.length=16):Tryz.prog.built 363 [(0,.agg (a.map B).toArray),(1,.agg (b.map B).toArray)]=some ((a++b).map B).toArray:=by
 obtain ⟨a0,a1,a2,a3,a4,a5,a6,a7,a8,a9,aa,ab,ac,ad,ae,af,rfl⟩:=ZI ha
 obtain ⟨b0,b1,b2,b3,b4,b5,b6,b7,b8,b9,ba,bb,bc,bd,be,bf,rfl⟩:=ZI hb
 kernel_rfl
theorem zhb (a b:List UInt8) (ha:a.length=16) (hb:b.length=16):Tryz.prog.built 343 [(3,.agg (a.map B).toArray),(4,.agg (b.map B).toArray)]=some (z4 (.slice none 0 0) (.slice none 0 0) (.slice none 0 0) a b).toArray:=by
 obtain ⟨a0,a1,a2,a3,a4,a5,a6,a7,a8,a9,aa,ab,ac,ad,ae,af,rfl⟩:=ZI ha
 obtain ⟨b0,b1,b2,b3,b4,b5,b6,b7,b8,b9,ba,bb,bc,bd,be,bf,rfl⟩:=ZI hb
 kernel_rfl
abbrev JD (bb bx:Nat) (ao:Option Addr) (len cap:Nat) (us:Nat→Value):Act:={ tmps:=#[.slice ao len cap,us 1,.pointer (some ⟨bb,0,none⟩),.pointer (some ⟨bx,0,none⟩),us 4,us 5,us 6,us 7,us 8,us 9,us 10,us 11,us 12,us 13,us 14,us 15,us 16,us 17,us 18,us 19,us 20,us 21,us 22,us 23,us 24,us 25,us 26,us 27,us 28,us 29,us 30,us 31,us 32,us 33,us 34,us 35,us 36,us 37,us 38,us 39,us 40,us 41,us 42],defers:=[] }
def Qf (bb:Nat) (X Y bm:List UInt8) (N:Nat) (w:World) (x:Act) (wr:World):Prop :=
 ∃ (us:Nat→Value) (bx:Nat) (ao:Option Addr) (len cap f:Nat) (r:List UInt8) (pv:Value) (ps:y9),x=JD bb bx ao len cap us∧bb < bx∧len≤cap∧32*ps.length+len≤1000000∧len≤f∧Hid (r.length=len)∧Hid (zr w ao (r.map B)) ∧
  Hid (wr.ownsRow (bx+1) 363 32 pv ps.length ((zV ps).map B))∧Hid (St w bb wr [(bx,z4 pv (.slice none 0 0) (.slice none 0 0) X Y,343),(bb,z4 (.slice none 0 0) (.slice none 0 0) (.slice none 0 0) (zf 16) (zf 16),343)]) ∧
  Hid (ps++xj f r=xj N bm∧xm f r=xm N bm)
theorem Qf.intro {bb:Nat} {X Y bm:List UInt8} {N:Nat} {w:World} {x:Act} {wr:World} (bx:Nat) (ao:Option Addr) (len cap f:Nat) (r:List UInt8) (pv:Value) (ps:y9) (hx:x=JD bb bx ao len cap (fun i=>x.tmps.getD i undef)) (h1:bb < bx) (h2:len≤cap) (h3:32*ps.length+len≤1000000) (h4:len≤f) (h5:r.length=len) (h6:zr w ao (r.map B))
  (h7:wr.ownsRow (bx+1) 363 32 pv ps.length ((zV ps).map B)) (h8:St w bb wr [(bx,z4 pv (.slice none 0 0) (.slice none 0 0) X Y,343),(bb,z4 (.slice none 0 0) (.slice none 0 0) (.slice none 0 0) (zf 16) (zf 16),343)])
  (h9:ps++xj f r=xj N bm∧xm f r=xm N bm):Qf bb X Y bm N w x wr:=⟨_,bx,ao,len,cap,f,r,pv,ps,hx,h1,h2,h3,h4,h5,h6,h7,h8,h9⟩
theorem vR:∀ (ps:y9) (p:List UInt8×List UInt8),zV (ps++[p])=zV ps++(p.1++p.2)
 | [],p=>by simp [zV]
 | q::ps,p=>by simp only [List.cons_append,zV,vR ps p,QA]
theorem VG {f:Nat} {r:List UInt8} (h:r.length < 32):xj f r=[]∧xm f r=r:=by
 cases f with
 | zero=>exact ⟨rfl,rfl⟩
 | succ f=>unfold xj xm;rw [if_neg (by omega),if_neg (by omega)];exact ⟨rfl,rfl⟩
theorem zcd (ao:Option Addr) (n cap:Nat) (m:List UInt8) (w:World) (hn:m.length=n) (h32:32≤n) (hnb:n≤1000000) (hc:n≤cap) (hl:zr w ao (m.map B)) :
  Calls Tryz.prog 238 #[.slice ao n cap] w fun e w'=>∃ pv ua uc va vc,e=.returned (.agg (z4 pv (.slice ua (z5 m).u.length uc) (.slice va (z5 m).v.length vc) (z5 m).x (z5 m).y).toArray) ∧
   w'.ownsRow w.heap.size 363 32 pv (z5 m).pairs.length ((zV (z5 m).pairs).map B)∧zr w ua ((z5 m).u.map B)∧zr w va ((z5 m).v.map B)∧Below w.heap.size w w':=by
 obtain ⟨i0,hi0,hq0,hq1,hq2⟩:=info_parts VE
 have HI:=znq (And.intro hi0 (And.intro hq0 (And.intro hq1 hq2)))
 have HT:=znq (show (363:TypeId)≠343 by decide)
 clear hi0 hq0 hq1 hq2
 have HN:=znq hn
 have HL:=znq hl
 have HS:=znq (St.start w)
 have HX:=znq (show (xw m 32).length=16 by unfold xw;exact zA _)
 have HY:=znq (show (xw m 16).length=16 by unfold xw;exact zA _)
 have HXE:=znq (show (z5 m).x=xw m 32∧(z5 m).y=xw m 16∧(z5 m).pairs=xj n (m.take (n - 32))∧(z5 m).u=(xm n (m.take (n - 32))).take 16∧(z5 m).v=(xm n (m.take (n - 32))).drop 16 from ⟨rfl,rfl,by subst hn;rfl,by subst hn;rfl,by subst hn;rfl⟩)
 have hbm:=zhb (xw m 32) (xw m 16) HX.znr HY.znr
 obtain ⟨X,hX⟩:∃ X,X=xw m 32:=⟨_,rfl⟩
 obtain ⟨Y,hY⟩:∃ Y,Y=xw m 16:=⟨_,rfl⟩
 obtain ⟨z,hz⟩:∃ z,z=n - 32:=⟨_,rfl⟩
 have HXX:=znq (show xw m 32=X∧True from ⟨hX.symm,trivial⟩)
 have HYY:=znq (show xw m 16=Y∧True from ⟨hY.symm,trivial⟩)
 rw [← hX] at HX
 rw [← hY] at HY
 rw [← hX,← hY] at hbm
 rw [← hX,← hY,← hz] at HXE
 have hzb:z+32=n:=by omega
 have e1:(n:Int) - 32=(z:Int):=by omega
 clear hn hl hX hY hz
 go_enter Tryz.func238,Tryz.ntmps238
 go_wp2_with (refine ze 343 (z4 (.slice none 0 0) (.slice none 0 0) (.slice none 0 0) (zf 16) (zf 16)) _ rfl rfl vq rfl ?_)
 intro w1 hb hbel;have HS:=znq (HS.znr.push hb hbel);have hlt1:=hb.lt;clear hb hbel
 generalize hbb:w.heap.size=bb at *
 have HBB:=znq hbb
 clear hbb
 go_wp2_with fail
 refine yd 0 (Qf bb X Y (m.take z) n w) (fun x _=>X9 (x.tmps.getD 0 undef)) rfl ?_ ?_
 ·simp only [q9]
  go_wp2_with fail
  refine (zcb ao n cap 32 m _ HN.znr (by omega) h32 hc hnb (HL.znr.below (HS.znr.old HBB.znr))).mono ?_
  rintro e w2 ⟨rfl,hbel⟩
  rw [HXX.znr.1]
  have HS:=znq (HS.znr.later hbel)
  clear hbel
  go_wp2_with fail
  refine (zcb ao n cap 16 m _ HN.znr (by omega) (by omega) hc hnb (HL.znr.below (HS.znr.old HBB.znr))).mono ?_
  rintro e w3 ⟨rfl,hbel⟩
  rw [HYY.znr.1]
  have HS:=znq (HS.znr.later hbel)
  clear hbel
  have hz3:bb < w3.heap.size:=(HS.znr.get 0 rfl).lt
  go_wp2_with (first | (refine xZ 343 _ _ _ rfl rfl rfl hbm ?_) | (refine ze 343 (z4 (.slice none 0 0) (.slice none 0 0) (.slice none 0 0) (zf 16) (zf 16)) _ rfl rfl vq rfl ?_))
  intro w4 hb hbel;have HS:=znq (HS.znr.push hb hbel);have zaE:=hb.lt;clear hb hbel
  have hs0:=fun w=>ZN (P:=Tryz.prog) w 22 5 1 Tryz.underlying22 zl ao n cap z (by omega)
  go_wp2_with (refine (HS.znr.get 0 rfl).mM rfl rfl rfl (cs:=z4 (.slice none 0 0) (.slice none 0 0) (.slice none 0 0) X Y) rfl yG (zY (zd 16) (zd 16)) (zY HX.znr HY.znr) (Qe rfl rfl rfl) ?_)
  intro w5 hb5 ho5
  have HS:=znq (show St w bb w5 [(w3.heap.size,z4 (.slice none 0 0) (.slice none 0 0) (.slice none 0 0) X Y,343),(bb,z4 (.slice none 0 0) (.slice none 0 0) (.slice none 0 0) (zf 16) (zf 16),343)] from HS.znr.change 0 hb5 ho5 (by omega) (by simp;omega))
  clear hb5 ho5
  go_wp2
  refine Qf.intro w3.heap.size ao z cap n (m.take z) (.slice none 0 0) [] rfl hz3 (by omega) (by simp;omega) (by omega) (by rw [Ku,HN.znr];omega) ?_ (vL _ _ _ _) HS.znr ⟨rfl,rfl⟩
  rw [bN]
  exact HL.znr.take _
 ·clear HS hlt1
  rintro x wr ⟨us,bx,ar,len,cr,f,r,pv,ps,rfl,hbx,hlc,hlb,hlf,HR,HLR,HO,HS,HP⟩
  generalize List.take z m=bm at *
  by_cases h:32≤len
  ·obtain ⟨f,rfl⟩:∃ g,f=g+1:=⟨f - 1,by omega⟩
   have hs1:=fun w=>yv (P:=Tryz.prog) w 22 5 1 Tryz.underlying22 zl ar len cr 16 16 rfl (by omega)
   have hs2:=fun w=>yv (P:=Tryz.prog) w 22 5 1 Tryz.underlying22 zl ar len cr 32 32 rfl h
   have d:decide ((len:Int)≥32)=true:=by simp;omega
   have HP:=znq (show (ps++[(block r,block (r.drop 16))])++xj f (r.drop 32)=xj n bm∧xm f (r.drop 32)=xm n bm from by
    have h1:=HP.znr.1
    have h2:=HP.znr.2
    have hr:=HR.znr
    rw [xj,if_pos (by omega)] at h1
    rw [xm,if_pos (by omega)] at h2
    exact ⟨by rw [← h1];simp,h2⟩)
   have hcp:=fun (y:zG wr.drew)=>((HS.znr.drew.later y.later).get 0 rfl).cell 0 _ rfl
   go_wp2_with fail
   refine zn [0,1,2,4,5,3,6,7,8,9,10,11] (by kernel_rfl) (by kernel_rfl) ?_
   rintro w2 rfl
   refine mqR ?_
   clear hcp
   have HS:=znq HS.znr.drew
   have HO:=znq (show wr.drew.ownsRow (bx+1) 363 32 pv ps.length ((zV ps).map B) from HO.znr)
   refine zi rfl rfl (by rfl) (fun K hK=>?_)
   go_simp
   refine (yQ ar len cr r _ HR.znr (HLR.znr.below (HS.znr.old HBB.znr))).mono ?_
   rintro e w5 ⟨rfl,hbel⟩
   have HS:=znq (HS.znr.later hbel)
   have HO:=znq (zm HO.znr hbel)
   go_simp
   refine hK _ _ hbel ?_
   clear hK K hbel
   refine zi rfl rfl (by rfl) (fun K hK=>?_)
   go_simp
   refine (yQ (yy ar cr 16) (len - 16) (cr - 16) (r.drop 16) _ (by rw [XQ,HR.znr]) ((zr.rJ HLR.znr (by rw [HR.znr];exact hlc) 16).below (HS.znr.old HBB.znr))).mono ?_
   rintro e w6 ⟨rfl,hbel⟩
   have HS:=znq (HS.znr.later hbel)
   have HO:=znq (zm HO.znr hbel)
   go_simp
   refine hK _ _ hbel ?_
   clear hK K hbel
   have HB1:=znq (zA r)
   have HB2:=znq (zA (r.drop 16))
   generalize block r=b1 at *
   generalize block (r.drop 16)=b2 at *
   have hbp:=XD b1 b2 HB1.znr HB2.znr
   refine kQ rfl rfl (by rfl) 363 _ [(0,.agg (b1.map B).toArray),(1,.agg (b2.map B).toArray)] _ rfl rfl hbp (fun K hK=>?_)
   go_simp
   refine hK _ ?_
   clear hK K hbp
   have hz6:bx < w6.heap.size:=(HS.znr.get 0 rfl).lt
   refine zi rfl rfl (by rfl) (fun K hK=>?_)
   refine y8 341 363 32 1 _ [b1.map B++b2.map B] rfl rfl Tryz.underlying341 zcc rfl (by omega) rfl (by omega) (by omega) (by simp [HB1.znr,HB2.znr]) ?_
   intro w7 hb7 ny
   have HS:=znq (HS.znr.later ny)
   have HO:=znq (zm HO.znr ny)
   have HN7:=znq (show zr w7 (some ⟨w6.heap.size,0,none⟩) (b1.map B++b2.map B) from by have:=hb7.lies;simpa using this)
   have hz7:bx < w7.heap.size:=(HS.znr.get 0 rfl).lt
   refine hK _ _ ny ?_
   clear hK K hb7 ny
   go_simp
   generalize w6.heap.size=bw6 at *
   refine zp rfl rfl (by rfl) (fun K hK=>?_)
   refine wp_append_own _ (.tmp 18) (.tmp 25) 341 rfl (bx+1) 363 i0 _ 32 32 Tryz.underlying341 HI.znr.1 HI.znr.2.1 HI.znr.2.2.1 HI.znr.2.2.2 rfl (by decide) pv ps.length _ rfl HO.znr ⟨bw6,0,none⟩ 1 1 (b1.map B++b2.map B) rfl (by simp [HB1.znr,HB2.znr]) HN7.znr.news (by intro u hu;rcases gP.1 hu with hu | hu <;> exact zg _ _ hu) (by unfold maxLen;omega) (by omega) (by omega) ?_
   intro v8 w8 p9 hg8 _
   refine hK _ _ ?_
   clear hK K
   have nG:Below (bx+1) w7 w8:=z8 (Below.refl (bx+1) w7) HO.znr hg8 (xc _) (by omega)
   have HS:=znq (HS.znr.low nG (by omega) (by intro e he;simp at he;rcases he with rfl | rfl <;> simp <;> omega))
   have HO:=znq (show w8.ownsRow (bx+1) 363 32 v8 (ps.length+1) ((zV (ps++[(b1,b2)])).map B) from by rw [vR];simpa using p9)
   clear p9 hg8 nG HN7
   obtain ⟨a8,c8,rfl,_,_,_⟩:=zw HO.znr
   go_simp
   refine mqR ?_
   refine zp rfl rfl (by rfl) (fun K hK=>?_)
   refine (HS.znr.get 0 rfl).nO (v:=.slice a8 (ps.length+1) c8) (i:=0) rfl rfl rfl JC rfl rfl (by simp [z4]) (fun w9 hb9 ho9=>hK _ _ ?_)
   clear hK K
   have HO:=znq (zu HO.znr (HS.znr.get 0 rfl) HT.znr ho9)
   have HS:=znq (show St w bb w9 [(bx,z4 (.slice a8 (ps.length+1) c8) (.slice none 0 0) (.slice none 0 0) X Y,343),(bb,z4 (.slice none 0 0) (.slice none 0 0) (.slice none 0 0) (zf 16) (zf 16),343)] from HS.znr.change 0 hb9 ho9 (by omega) (by simp;omega))
   clear hb9 ho9
   go_simp
   refine zo ?_
   go_wp2
   refine wp_goto ⟨rfl,Qf.intro bx (yy ar cr 32) (len - 32) (cr - 32) f (r.drop 32) _ (ps++[(b1,b2)]) rfl hbx (by omega) (by simp;omega) (by omega) (by rw [XQ,HR.znr]) (zr.rJ HLR.znr (by rw [HR.znr];exact hlc) 32) (by rw [List.length_append];exact HO.znr) HS.znr HP.znr,?_⟩
   simp [X9];omega
  ·have d:decide ((len:Int)≥32)=false:=by simp;omega
   have hm:∃ ul:Nat,ul=min len 16∧(if (16:Int) < len then (16:Int) else len)=(ul:Int):=⟨_,rfl,by split <;> omega⟩
   obtain ⟨ul,hul,hm⟩:=hm
   have hu1:ul≤16:=by omega
   have hu2:ul≤len:=by omega
   have HU:=znq hul
   clear hul
   have hs1:=fun w=>ZN (P:=Tryz.prog) w 22 5 1 Tryz.underlying22 zl ar len cr ul (by omega)
   have hs2:=fun w=>yv (P:=Tryz.prog) w 22 5 1 Tryz.underlying22 zl ar len cr ul ul rfl (by omega)
   have HP:=znq (show ps=xj n bm∧r=xm n bm from by
    have h1:=HP.znr.1
    have h2:=HP.znr.2
    obtain ⟨e1,e2⟩:=VG (f:=f) (r:=r) (by rw [HR.znr];omega)
    rw [e1] at h1
    rw [e2] at h2
    exact ⟨by simpa using h1,h2⟩)
   go_wp2_with (refine (HS.znr.get 0 rfl).zch 1 (.slice ar ul cr) rfl rfl rfl rfl qo rfl rfl (by simp [z4]) ?_)
   intro w5 hb5 ho5
   have HO:=znq (zu HO.znr (HS.znr.get 0 rfl) HT.znr ho5)
   have HS:=znq (show St w bb w5 [(bx,z4 pv (.slice ar ul cr) (.slice none 0 0) X Y,343),(bb,z4 (.slice none 0 0) (.slice none 0 0) (.slice none 0 0) (zf 16) (zf 16),343)] from HS.znr.change 0 hb5 ho5 (by omega) (by simp;omega))
   clear hb5 ho5
   have hcu:=(HS.znr.get 0 rfl).cell 1 _ rfl
   go_wp2_with (refine (HS.znr.get 0 rfl).zch 2 (.slice (yy ar cr ul) (len - ul) (cr - ul)) rfl rfl rfl rfl qo rfl rfl (by simp [z4]) ?_)
   intro w6 hb6 ho6
   have HO:=znq (zu HO.znr (HS.znr.get 0 rfl) HT.znr ho6)
   have HS:=znq (show St w bb w6 [(bx,z4 pv (.slice ar ul cr) (.slice (yy ar cr ul) (len - ul) (cr - ul)) X Y,343),(bb,z4 (.slice none 0 0) (.slice none 0 0) (.slice none 0 0) (zf 16) (zf 16),343)] from HS.znr.change 0 hb6 ho6 (by omega) (by simp;omega))
   clear hb6 ho6 hcu
   obtain ⟨ap,np,cp,hpv,_⟩:∃ ap np cp,pv=.slice ap np cp∧True:=by
    obtain ⟨ap,cp,e,_⟩:=zw HO.znr
    exact ⟨ap,_,cp,e,trivial⟩
   subst hpv
   go_wp2_with (first | (refine (HS.znr.get 0 rfl).mP rfl rfl rfl yG (zY HX.znr HY.znr) ?_) | (refine (HS.znr.get 1 rfl).mM rfl rfl rfl (cs:=z4 (.slice ap np cp) (.slice ar ul cr) (.slice (yy ar cr ul) (len - ul) (cr - ul)) X Y) rfl yG (zY (zd 16) (zd 16)) (zY HX.znr HY.znr) (Qe rfl rfl rfl) ?_))
   intro w7 hb7 ho7
   have HO:=znq (zu HO.znr (HS.znr.get 1 rfl) HT.znr ho7)
   have ny:=zk HS.znr.bel ho7 (xc _)
   have huu:(z5 m).u.length=ul:=by rw [HXE.znr.2.2.2.1,← HP.znr.2,Ku,HR.znr,HU.znr];omega
   have hvv:(z5 m).v.length=len - ul:=by rw [HXE.znr.2.2.2.2,← HP.znr.2,XQ,HR.znr];have:=HU.znr;omega
   go_wp2
   refine hb7.result rfl rfl rfl yG (zY HX.znr HY.znr) ⟨.slice ap np cp,ar,cr,yy ar cr ul,cr - ul,?_,?_,?_,?_,by rw [HBB.znr];exact ny⟩
   ·rw [huu,hvv,HXE.znr.1,HXE.znr.2.1]
   ·rw [HXE.znr.2.2.1,← HP.znr.1,HBB.znr]
    exact yi HO.znr (by omega)
   ·rw [HXE.znr.2.2.2.1,← HP.znr.2,bN]
    exact HLR.znr.take _
   ·rw [HXE.znr.2.2.2.2,← HP.znr.2]
    have hul:ul=min len 16:=HU.znr
    by_cases h16:len≤16
    ·rw [Yx (by rw [HR.znr];exact h16)]
     exact zr.nil _ _
    ·obtain rfl:ul=16:=by omega
     exact zr.rJ HLR.znr (by rw [HR.znr];exact hlc) 16
end Go.Proofs.YtamdifhibogdiaaGreatDoor
namespace Go.Cells
open RowKit Mem
theorem Blk.su {w:World} {b:Nat} {vs:List Value} {ty:TypeId} (h:Blk w b vs ty) (off:Nat) {us:List Value} (hu:(vs.drop off).take us.length=us):zr w (some ⟨b,off,none⟩) us:=by
 intro j u hj
 refine ⟨b,off,rfl,h.cell (off+j) u ?_⟩
 have hjl:j < us.length:=(kT.1 hj).1
 rw [← hj]
 conv=>rhs;rw [← hu]
 rw [List.getElem?_take_of_lt hjl,List.getElem?_drop]
end Go.Cells
namespace Go.Proofs.YtamdifhibogdiaaGreatDoor
open RowKit Mem Ops Cells Oct Gf Trn Aes Ring Ezk Ezh Ezt Ezc ru Fl
attribute [local irreducible] zE zN zO zM yu
def JE (p:List UInt8×List UInt8):List UInt8:=p.1++p.2
theorem Ki {p:List UInt8×List UInt8} (h:xO p):(JE p).length=32:=by simp [JE,h.1,h.2]
theorem JF:∀ (ps:y9),zV ps=(ps.map JE).flatten
 | []=>rfl
 | p::r=>by simp only [zV,List.map_cons,List.flatten_cons,JF r];rfl
theorem zev {w:World} {ap:Option Addr} {ps:y9} (hf:∀ p∈ps,xO p) (hl:zr w ap ((zV ps).map B)):yB 32 w ap (ps.map JE) :=
 ⟨fun k hk=>by obtain ⟨p,hp,rfl⟩:=List.mem_map.1 hk;exact Ki (hf p hp),by rw [← JF];exact hl⟩
theorem XE {α:Type} {l:List α} {i:Nat} {x:α} (h:l[i]? = some x):l.take (i+1)=l.take i++[x]:=by
 rw [fA,h];rfl
theorem zew {pv uv vv:Value} {x y:List UInt8} (hx:x.length=16):((z4 pv uv vv x y).drop 3).take 16=x.map B:=by
 simp [z4,hx,List.take_append]
theorem XF {pv uv vv:Value} {x y:List UInt8} (hx:x.length=16) (hy:y.length=16):((z4 pv uv vv x y).drop 19).take 16=y.map B:=by
 have:(z4 pv uv vv x y).drop 19=y.map B:=by
  show (x.map B++y.map B).drop 16=_
  rw [show (16:Nat)=(x.map B).length by simp [hx],List.drop_left]
 rw [this,Y2 (by simp [hy])]
theorem Wj (m:Msg) (ap:Option Addr) (np cp:Nat) (ua va:Option Addr) (nu nv uc vc:Nat) (w:World) (hf:m.Fit) (hnp:m.pairs.length=np) (hnu:m.u.length=nu) (hnv:m.v.length=nv) (hp:yB 32 w ap (m.pairs.map JE)) (hu:zr w ua (m.u.map B)) (hv:zr w va (m.v.map B)) (hb:32*np≤1000000) :
  Calls Tryz.prog 243 #[.agg (z4 (.slice ap np cp) (.slice ua nu uc) (.slice va nv vc) m.x m.y).toArray] w fun e w'=>∃ v,e=.returned v∧w'.ownsRow w.heap.size 5 1 v (xB m).length ((xB m).map B)∧Below w.heap.size w w':=by
 obtain ⟨i0,hi0,hz0,hz1,hz2⟩:=info_parts qR
 have HI:=znq (And.intro hi0 (And.intro hz0 (And.intro hz1 hz2)))
 have HT:=znq (show (5:TypeId)≠363 by decide)
 have HF:=znq hf
 have HNP:=znq hnp
 have HNU:=znq hnu
 have HNV:=znq hnv
 have HP:=znq hp
 have HU:=znq hu
 have HV:=znq hv
 have HS:=znq (St.start w)
 have zdR:nu≤16:=by rw [← hnu];exact hf.u
 have zfZ:nv < 16:=by rw [← hnv];exact hf.v
 obtain ⟨V,hV⟩:∃ V,V=z4 (.slice ap np cp) (.slice ua nu uc) (.slice va nv vc) m.x m.y:=⟨_,rfl⟩
 have HVV:=znq (show V=z4 (.slice ap np cp) (.slice ua nu uc) (.slice va nv vc) m.x m.y∧True from ⟨hV,trivial⟩)
 rw [← hV]
 clear hi0 hz0 hz1 hz2 hf hnp hnu hnv hp hu hv hV
 go_enter Tryz.func243,Tryz.ntmps243
 go_wp2_with (refine zh 343 _ (V) _ rfl rfl rfl rfl ?_)
 intro w1 hb hbel;have HS:=znq (HS.znr.push hb hbel);have hlt1:=hb.lt;clear hb hbel
 generalize hbb:w.heap.size=bb at *
 have HBB:=znq hbb
 clear hbb
 have hc0:=(HS.znr.get 0 rfl).cell 0 (.slice ap np cp) (by rw [HVV.znr.1];rfl)
 have hz1:=HS.znr.size
 have hbase:bb < w1.heap.size:=hlt1
 go_wp2
 go_loopw [3,9] (fun v c wr=>∃ i:Nat,i≤np∧c=.int .i64 i∧Hid (wr.ownsRow (bb+1) 5 1 v (32*i) ((zV (m.pairs.take i)).map B))∧Hid (St w bb wr [(bb,V,343)])) (fun _ c _=>np - (intOf c).toNat)
 case atStart=>exact ⟨0,by omega,rfl,znq (by simpa [zV] using vL w1 (bb+1) _ 1),HS⟩
 case round =>
  clear HS hc0
  obtain ⟨i,hi,rfl,HO,HS⟩:=hrel
  have hwr:bb < wr.heap.size:=(HS.znr.get 0 rfl).lt
  by_cases hlt:i < np
  ·obtain ⟨p,hpi⟩:∃ p,m.pairs[i]? = some p:=⟨m.pairs[i]'(by rw [HNP.znr];exact hlt),by simp⟩
   have HPF:=znq (HF.znr.pairs p (xU hpi))
   obtain ⟨kb,nI,rfl,hkb,hr⟩:=(HP.znr.below (by rw [HBB.znr];exact HS.znr.bel)).range (by omega) (show (m.pairs.map JE)[i]? = some (JE p) by rw [List.getElem?_map,hpi];rfl)
   have HTK:=znq (show zV (m.pairs.take (i+1))=zV (m.pairs.take i)++(p.1++p.2)∧True from ⟨by rw [XE hpi,vR],trivial⟩)
   have HR:=znq hr
   have tY:=znq (show ((JE p).map B).length=32 by rw [yf];exact Ki HPF.znr)
   clear hpi hr
   go_wp2_with (first | (refine wpList_load_mid rfl 363 (.tmp 11) rfl kb (nI+i*32) rfl _ _ HR.znr Tryz.underlying363 rfl (by rw [tY.znr];exact vt.2) ?_) | (refine ze 363 ((zf 32).map B) _ rfl rfl VF rfl ?_))
   intro w3 hb hbel;have HO:=znq (zm HO.znr hbel);have HS:=znq (HS.znr.push hb hbel);have hlt3:=hb.lt;clear hb hbel
   generalize wr.heap.size=bk at *
   go_wp2_with (refine (HS.znr.get 0 rfl).mM rfl rfl rfl rfl vt (by rw [yf];exact zd 32) tY.znr (zg _) ?_)
   intro w4 hb4 ho4
   have HO:=znq (zu HO.znr (HS.znr.get 0 rfl) HT.znr ho4)
   have HS:=znq (HS.znr.change 0 hb4 ho4 (by omega) (by simp;omega))
   have HBK:=znq hb4
   clear hb4 ho4
   go_wp2_with fail
   refine jM (bb+1) [(0,true),(1,true),(2,true),(4,true),(5,true),(3,false),(6,false),(7,false)] (by kernel_rfl) (by kernel_rfl) ?_
   rintro w5 rfl
   refine mqB ?_
   have HS:=znq HS.znr.drew
   have HBK:=znq HBK.znr.drew
   have HO:=znq (show w4.drew.ownsRow (bb+1) 5 1 u3 (32*i) ((zV (m.pairs.take i)).map B) from HO.znr)
   have hz4:=(HS.znr.get 1 rfl).lt
   refine xW rfl (by rfl) (fun K hK=>?_)
   refine xX (.tmp 13) (.tmp 15) 22 rfl (bb+1) 5 i0 (.int .u8 0) 1 Tryz.underlying22 HI.znr.1 HI.znr.2.1 HI.znr.2.2.1 HI.znr.2.2.2 rfl _ _ _ rfl HO.znr (some ⟨bk,0,none⟩) 16 16 (p.1.map B) rfl (by rw [yf];exact HPF.znr.1)
    (HBK.znr.su 0 (by simp [JE,HPF.znr.1,HPF.znr.2])) (j9 _) (by unfold maxLen;omega) (by omega) (by omega) ?_
   intro v6 w6 hown6 hg6
   have mQ:Below (bb+1) w4.drew w6:=z8 (Below.refl (bb+1) w4.drew) HO.znr hg6 (xc _) (by omega)
   refine hK _ _ mQ ?_
   clear hK K
   have HS:=znq (show St w bb w6 [(bb,V,343)] from (HS.znr.tail).low mQ (by omega) (by simp))
   have HBK:=znq (HBK.znr.zbZ HT.znr HO.znr hg6)
   have HO:=znq hown6
   clear hown6 hg6 mQ
   go_simp
   have hz6:=(HS.znr.get 0 rfl).lt
   refine xW rfl (by rfl) (fun K hK=>?_)
   refine xX (.tmp 16) (.tmp 18) 22 rfl (bb+1) 5 i0 (.int .u8 0) 1 Tryz.underlying22 HI.znr.1 HI.znr.2.1 HI.znr.2.2.1 HI.znr.2.2.2 rfl _ _ _ rfl HO.znr (some ⟨bk,16,none⟩) 16 16 (p.2.map B) rfl (by rw [yf];exact HPF.znr.2)
    (HBK.znr.su 16 (by simp [JE,HPF.znr.1,HPF.znr.2,List.drop_append];exact Y2 (by simp [HPF.znr.2]))) (j9 _) (by unfold maxLen;omega) (by omega) (by omega) ?_
   intro v7 w7 rq hg7
   have ny:Below (bb+1) w6 w7:=z8 (Below.refl (bb+1) w6) HO.znr hg7 (xc _) (by omega)
   refine hK _ _ ny ?_
   clear hK K
   have HS:=znq (show St w bb w7 [(bb,V,343)] from HS.znr.low ny (by omega) (by simp))
   have HO:=znq (show w7.ownsRow (bb+1) 5 1 v7 (32*(i+1)) ((zV (m.pairs.take (i+1))).map B) from by
    rw [HTK.znr.1,show 32*(i+1)=32*i+16+16 by omega];simpa [QA] using rq)
   clear rq hg7 ny HBK
   go_simp
   refine mqB ?_
   refine Zi ?_
   go_wp2
   go_roundw
   case rel=>exact ⟨i+1,by omega,by go_num,HO,HS⟩
   case measure=>simp [intOf];omega
  ·obtain rfl:i=np:=by omega
   rw [Y2 (by rw [HNP.znr];exact xc _)] at HO
   have hcu:=(HS.znr.get 0 rfl).cell 1 (.slice ua nu uc) (by rw [HVV.znr.1];rfl)
   have hcv:=(HS.znr.get 0 rfl).cell 2 (.slice va nv vc) (by rw [HVV.znr.1];rfl)
   have hcu:=fun (y:QG (bb+1) wr.drew)=>((HS.znr.get 0 rfl).drew.below y.below (gK _)).cell 1 (.slice ua nu uc) (by rw [HVV.znr.1];rfl)
   have hcv:=fun (y:QG (bb+1) wr.drew)=>((HS.znr.get 0 rfl).drew.below y.below (gK _)).cell 2 (.slice va nv vc) (by rw [HVV.znr.1];rfl)
   go_wp2_with fail
   refine jM (bb+1) [(0,true),(1,true),(2,true),(4,true),(5,true),(3,false),(6,false),(7,false)] (by kernel_rfl) (by kernel_rfl) ?_
   rintro w5 rfl
   refine mqB ?_
   clear hcu hcv
   have HS:=znq HS.znr.drew
   have HO:=znq (show wr.drew.ownsRow (bb+1) 5 1 u3 (32*i) ((zV m.pairs).map B) from HO.znr)
   refine xW rfl (by rfl) (fun K hK=>?_)
   refine xX (.tmp 21) (.tmp 23) 22 rfl (bb+1) 5 i0 (.int .u8 0) 1 Tryz.underlying22 HI.znr.1 HI.znr.2.1 HI.znr.2.2.1 HI.znr.2.2.2 rfl _ _ _ rfl HO.znr ua nu uc (m.u.map B) rfl (by rw [yf];exact HNU.znr)
    (HU.znr.below (HS.znr.old HBB.znr)) (j9 _) (by unfold maxLen;omega) (by omega) (by simp;omega) ?_
   intro v6 w6 hown6 hg6
   have mQ:Below (bb+1) wr.drew w6:=z8 (Below.refl (bb+1) wr.drew) HO.znr hg6 (xc _) (by simp;omega)
   refine hK _ _ mQ ?_
   clear hK K
   have HS:=znq (show St w bb w6 [(bb,V,343)] from HS.znr.low mQ (by omega) (by simp))
   have HO:=znq hown6
   clear hown6 hg6 mQ
   go_simp
   have hz6:=(HS.znr.get 0 rfl).lt
   refine xW rfl (by rfl) (fun K hK=>?_)
   refine xX (.tmp 24) (.tmp 26) 22 rfl (bb+1) 5 i0 (.int .u8 0) 1 Tryz.underlying22 HI.znr.1 HI.znr.2.1 HI.znr.2.2.1 HI.znr.2.2.2 rfl _ _ _ rfl HO.znr va nv vc (m.v.map B) rfl (by rw [yf];exact HNV.znr)
    (HV.znr.below (HS.znr.old HBB.znr)) (j9 _) (by unfold maxLen;omega) (by omega) (by omega) ?_
   intro v7 w7 rq hg7
   have ny:Below (bb+1) w6 w7:=z8 (Below.refl (bb+1) w6) HO.znr hg7 (xc _) (by omega)
   refine hK _ _ ny ?_
   clear hK K
   have HS:=znq (show St w bb w7 [(bb,V,343)] from HS.znr.low ny (by omega) (by simp))
   have HO:=znq rq
   clear rq hg7 ny
   go_simp
   refine mqB ?_
   refine Zi ?_
   have hz7:=(HS.znr.get 0 rfl).lt
   go_wp2_with fail
   refine jM (bb+1) [(0,true),(1,true),(2,true),(4,true),(5,true),(3,false),(6,false),(7,false)] (by kernel_rfl) (by kernel_rfl) ?_
   rintro w8 rfl
   refine mqB ?_
   have HS:=znq HS.znr.drew
   have HO:=znq (show w7.drew.ownsRow (bb+1) 5 1 v7 _ _ from HO.znr)
   refine xW rfl (by rfl) (fun K hK=>?_)
   refine xX (.tmp 28) (.tmp 30) 22 rfl (bb+1) 5 i0 (.int .u8 0) 1 Tryz.underlying22 HI.znr.1 HI.znr.2.1 HI.znr.2.2.1 HI.znr.2.2.2 rfl _ _ _ rfl HO.znr (some ⟨bb,3,none⟩) 16 16 (m.x.map B) rfl (by rw [yf];exact HF.znr.x)
    ((HS.znr.get 0 rfl).su 3 (by rw [HVV.znr.1,yf,HF.znr.x];exact zew HF.znr.x)) (j9 _) (by unfold maxLen;omega) (by omega) (by simp;omega) ?_
   intro v9 w9 zb2 hg9
   have nM:Below (bb+1) w7.drew w9:=z8 (Below.refl (bb+1) w7.drew) HO.znr hg9 (xc _) (by simp;omega)
   refine hK _ _ nM ?_
   clear hK K
   have HS:=znq (show St w bb w9 [(bb,V,343)] from HS.znr.low nM (by omega) (by simp))
   have HO:=znq zb2
   clear zb2 hg9 nM
   go_simp
   have hz9:=(HS.znr.get 0 rfl).lt
   refine xW rfl (by rfl) (fun K hK=>?_)
   refine xX (.tmp 31) (.tmp 33) 22 rfl (bb+1) 5 i0 (.int .u8 0) 1 Tryz.underlying22 HI.znr.1 HI.znr.2.1 HI.znr.2.2.1 HI.znr.2.2.2 rfl _ _ _ rfl HO.znr (some ⟨bb,19,none⟩) 16 16 (m.y.map B) rfl (by rw [yf];exact HF.znr.y)
    ((HS.znr.get 0 rfl).su 19 (by rw [HVV.znr.1,yf,HF.znr.y];exact XF HF.znr.x HF.znr.y)) (j9 _) (by unfold maxLen;omega) (by omega) (by omega) ?_
   intro v10 w10 zdA hg10
   have nE:Below (bb+1) w9 w10:=z8 (Below.refl (bb+1) w9) HO.znr hg10 (xc _) (by omega)
   refine hK _ _ nE ?_
   clear hK K
   have HS:=znq (show St w bb w10 [(bb,V,343)] from HS.znr.low nE (by omega) (by simp))
   have HLB:=znq (show (xB m).length=32*i+nu+nv+16+16 from by rw [qZ HF.znr,HNP.znr,HNU.znr,HNV.znr])
   have HO:=znq (show w10.ownsRow (bb+1) 5 1 v10 (xB m).length ((xB m).map B) from by
    rw [HLB.znr];unfold xB;simpa [QA] using zdA)
   clear zdA hg10 nE
   go_simp
   refine mqB ?_
   refine Zi ?_
   go_wp2
   go_ret
   exact ⟨_,rfl,by rw [HBB.znr];exact yi HO.znr (by omega),by rw [HBB.znr];exact HS.znr.bel⟩
end Go.Proofs.YtamdifhibogdiaaGreatDoor
namespace Go.Cells
open RowKit Mem
structure Su (w0:World) (pb:Nat) (w:World) (L:List (Nat×List Value×TypeId)):Prop where
 only:zI pb w0 w
 all:∀ e∈L,Blk w e.1 e.2.1 e.2.2
theorem Su.start (pb:Nat) (w:World):Su w pb w []:=⟨zI.refl _ _,fun _ h=>by cases h⟩
section
variable {w0 w w':World} {pb:Nat} {L:List (Nat×List Value×TypeId)}
theorem Su.get (h:Su w0 pb w L) (i:Nat) {b:Nat} {vs:List Value} {ty:TypeId} (hi:L[i]? = some (b,vs,ty)):Blk w b vs ty:=h.all _ (xU hi)
theorem Su.later (h:Su w0 pb w L) (hl:Below w.heap.size w w'):Su w0 pb w' L:=⟨h.only.trans (zI.of_below hl),fun e he=>(h.all e he).below hl (h.all e he).lt⟩
theorem Su.drew (h:Su w0 pb w L):Su w0 pb w.drew L:=⟨h.only.drew,fun e he=>(h.all e he).drew⟩
theorem Su.add (h:Su w0 pb w L) {b:Nat} {vs:List Value} {ty:TypeId} (hb:Blk w b vs ty):Su w0 pb w ((b,vs,ty)::L) :=
 ⟨h.only,fun e he=>by
  rcases uB.1 he with rfl | he
  ·exact hb
  ·exact h.all e he⟩
theorem Su.push (h:Su w0 pb w L) {b:Nat} {vs:List Value} {ty:TypeId} (hb:Blk w' b vs ty) (hl:Below w.heap.size w w'):Su w0 pb w' ((b,vs,ty)::L):=(h.later hl).add hb
theorem Su.ne (h:Su w0 pb w L):∀ e∈L,e.1 < w.heap.size:=fun e he=>(h.all e he).lt
theorem Su.size (h:Su w0 pb w L):w0.heap.size≤w.heap.size:=h.only.size
theorem Su.change (h:Su w0 pb w L) (i:Nat) {b:Nat} {us:List Value} {ty:TypeId} (hb:Blk w' b us ty) (ho:Only b w w') (hbase:w0.heap.size≤b∨b=pb) (hne:∀ e∈L.eraseIdx i,e.1≠b):Su w0 pb w' (L.set i (b,us,ty)):=by
 refine ⟨?_,fun e he=>?_⟩
 ·rcases hbase with hbase | rfl
  ·exact h.only.other ho hbase
  ·exact h.only.trans (zI.nH ho)
 ·obtain ⟨j,hj⟩:=List.mem_iff_getElem?.1 he
  rw [List.getElem?_set] at hj
  by_cases e1:i=j
  ·subst e1
   rw [if_pos rfl] at hj
   split at hj
   ·cases hj;exact hb
   ·cases hj
  ·rw [if_neg e1] at hj
   exact (h.all e (xU hj)).only ho (hne e (kA _ _ _ _ (fun h=>e1 h.symm) hj))
theorem Su.tail {e:Nat×List Value×TypeId} (h:Su w0 pb w (e::L)):Su w0 pb w L:=⟨h.only,fun x hx=>h.all x (List.mem_cons_of_mem _ hx)⟩
theorem Su.zdV {e f:Nat×List Value×TypeId} (h:Su w0 pb w (e::f::L)):Su w0 pb w L:=h.tail.tail
end
theorem Blk.ne' {w:World} {b c:Nat} {vs us:List Value} {t t':TypeId} (h:Blk w b vs t) (k:Blk w c us t') (hne:t≠t'):b≠c:=by
 rintro rfl
 unfold Blk at h k
 rw [h] at k
 cases k
 exact hne rfl
end Go.Cells
namespace Go.Proofs.YtamdifhibogdiaaGreatDoor
open RowKit Mem Ops Cells Oct Gf Trn Aes Ring Ezk Ezh Ezt Ezc ru Fl
attribute [local irreducible] zE zN zO zM yu
theorem xH.pR {w w':World} {kp q p c:Nat} {k:zv} (h:xH w kp q p k) (ho:zI c w w') (h1:kp≠c) (h2:q≠c) (h3:p≠c):xH w' kp q p k :=
 ⟨⟨h.tab.boxes.pR ho h3,h.tab.tab.pR ho h2⟩,h.fit,h.blk.pR ho h1⟩
theorem JG (ao:Option Addr) (n cap:Nat) (b:List UInt8) (w:World) (hn:b.length=n) (hnb:n≤1000) (hl:zr w ao (b.map B)) :
  Calls Tryz.prog 263 #[.slice ao n cap] w fun e w'=>e=.returned (.agg ((block (qv b 128 16)).map B).toArray)∧Below w.heap.size w w':=by
 have HN:=znq hn
 have HL:=znq hl
 have HS:=znq (St.start w)
 obtain ⟨y,hy⟩:∃ y,y=block (qv b 128 16):=⟨_,rfl⟩
 have HY:=znq (show block (qv b 128 16)=y∧True from ⟨hy.symm,trivial⟩)
 have HBL:=znq (show y.length=16 by rw [hy];exact zA _)
 rw [← hy]
 clear hn hl hy
 go_enter Tryz.func263,Tryz.ntmps263
 go_wp2_with (refine ze 59 ((zf 16).map B) _ rfl rfl zj rfl ?_)
 intro w1 hb hbel;have HS:=znq (HS.znr.push hb hbel);have hlt1:=hb.lt;clear hb hbel
 generalize hbb:w.heap.size=bb at *
 have HBB:=znq hbb
 clear hbb
 go_wp2_with fail
 refine (QE ao n cap 16 128 b _ HN.znr (by omega) (by omega) (by omega) (HL.znr.below (HS.znr.old HBB.znr))).mono ?_
 rintro e w2 ⟨v2,rfl,hown,hbel⟩
 obtain ⟨ao2,cap2,rfl,hc2,_,hl2⟩:=zw hown
 have HS:=znq (HS.znr.later hbel)
 have HL2:=znq hl2
 clear hown hbel hl2
 simp only [id]
 go_wp2_with fail
 refine (yQ ao2 _ cap2 (qv b 128 16) _ (by rw [X8,HN.znr]) HL2.znr).mono ?_
 rintro e w3 ⟨rfl,hbel⟩
 have HS:=znq (HS.znr.later hbel)
 rw [HY.znr.1]
 clear hbel HL2 hc2
 go_wp2_with (refine (HS.znr.get 0 rfl).mM rfl rfl rfl rfl zc (by rw [yf];exact zd 16) (by rw [yf];exact HBL.znr) (zg _) ?_)
 intro w4 hb4 ho4
 have nD:=zk HS.znr.bel ho4 (xc _)
 go_wp2
 refine hb4.result rfl rfl rfl zc (by rw [yf];exact HBL.znr) ⟨rfl,?_⟩
 rw [HBB.znr]
 exact nD
theorem Qg (kp q p:Nat) (k:zv) (pv:Value) (ua va:Option Addr) (nu nv uc vc:Nat) (u v x y:List UInt8) (w:World) (hk:xH w kp q p k) (hnu:u.length=nu) (hnv:v.length=nv) (zdR:nu≤16) (zfZ:nv < 16) (hu:zr w ua (u.map B)) (hv:zr w va (v.map B)) :
  Calls Tryz.prog 241 #[.agg (z4 pv (.slice ua nu uc) (.slice va nv vc) x y).toArray,.pointer (some ⟨kp,0,none⟩)] w fun e w'=>e=.returned (.agg ((kh k u v).map B).toArray)∧Below w.heap.size w w':=by
 have HK:=znq hk
 have HNU:=znq hnu
 have HNV:=znq hnv
 have HU:=znq hu
 have HV:=znq hv
 have HS:=znq (St.start w)
 have HTL:=znq (show (kh k u v).length=16 by unfold kh;split;exact zd 16;split;exact mO _;exact yo _ _ _ _)
 obtain ⟨V,hV⟩:∃ V,V=z4 pv (.slice ua nu uc) (.slice va nv vc) x y:=⟨_,rfl⟩
 have HVV:=znq (show V=z4 pv (.slice ua nu uc) (.slice va nv vc) x y∧True from ⟨hV,trivial⟩)
 obtain ⟨T,hT⟩:∃ T,T=kh k u v:=⟨_,rfl⟩
 have HTT:=znq (show kh k u v=T∧True from ⟨hT.symm,trivial⟩)
 rw [← hT] at HTL
 rw [← hV,← hT]
 clear hk hnu hnv hu hv hV hT
 have hmf:∀ (fn:Fn) (first cap:Array Value) (w:World),(Instr.makeFunc fn first cap).run Tryz.prog w=.ok (.func fn first cap) w:=fun _ _ _ _=>rfl
 go_enter Tryz.func241,Tryz.ntmps241
 go_wp2_with (refine zh 343 _ (V) _ rfl rfl rfl rfl ?_)
 intro w1 hb hbel;have HS:=znq (HS.znr.push hb hbel);have hlt1:=hb.lt;clear hb hbel
 go_wp2_with (refine ze 59 ((zf 16).map B) _ rfl rfl zj rfl ?_)
 intro w2 hb hbel;have HS:=znq (HS.znr.push hb hbel);have hlt2:=hb.lt;clear hb hbel
 generalize hbb:w.heap.size=bb at *
 generalize w1.heap.size=bw1 at *
 have HBB:=znq hbb
 clear hbb
 have hcu:=(HS.znr.get 1 rfl).cell 1 (.slice ua nu uc) (by rw [HVV.znr.1];rfl)
 by_cases h0:nu=0
 ·have d0:((nu:Int)==0)=true:=by simp;omega
  have HT0:=znq (show T=zf 16∧True from ⟨by rw [← HTT.znr.1];unfold kh;rw [if_pos (by rw [HNU.znr];exact h0)],trivial⟩)
  clear h0
  go_wp2_with (refine (HS.znr.get 0 rfl).mM rfl rfl rfl (cs:=(zf 16).map B) rfl zc (by rw [yf];exact zd 16) (by rw [yf];exact zd 16) (zg _) ?_)
  intro w4 hb4 ho4
  have nD:=zk HS.znr.bel ho4 (by omega)
  go_wp2
  refine hb4.result rfl rfl rfl zc (by rw [yf];exact zd 16) ⟨by rw [HT0.znr.1],?_⟩
  rw [HBB.znr]
  exact nD
 ·have d0:((nu:Int)==0)=false:=by simp;omega
  by_cases h16:nu=16
  ·have d1:((nu:Int)==16)=true:=by simp;omega
   have HE:=znq (show plusB [pM k 0 4 (block u),pM k 0 5 (block (qv v 128 16))]=T∧True from ⟨by rw [← HTT.znr.1];unfold kh;rw [if_neg (by rw [HNU.znr];exact h0),if_pos (by rw [HNU.znr];exact h16)],trivial⟩)
   have hcu':=fun (z:zG w2.drew)=>((HS.znr.drew.later z.later).get 1 rfl).cell 1 (.slice ua nu uc) (by rw [HVV.znr.1];rfl)
   have hcv':=fun (z:zG w2.drew)=>((HS.znr.drew.later z.later).get 1 rfl).cell 2 (.slice va nv vc) (by rw [HVV.znr.1];rfl)
   clear h0 h16
   go_wp2_with fail
   refine zn [0,1,2,5,6,7,8,3,4,9,10,11,12,13] (by kernel_rfl) (by kernel_rfl) ?_
   rintro w3 rfl
   refine mqR ?_
   clear hcu' hcv'
   have HS:=znq HS.znr.drew
   refine zi rfl rfl (by rfl) (fun K hK=>?_)
   go_simp
   refine (yQ ua nu uc u _ HNU.znr (HU.znr.below (HS.znr.old HBB.znr))).mono ?_
   rintro e w4 ⟨rfl,hbel⟩
   have HS:=znq (HS.znr.later hbel)
   go_simp
   refine hK _ _ hbel ?_
   clear hK K hbel
   refine zi rfl rfl (by rfl) (fun K hK=>?_)
   go_simp
   refine (YZ kp q p 0 4 k (block u) _ (HK.znr.later (HS.znr.old HBB.znr)) (by omega) (by omega) (zA _)).mono ?_
   rintro e w5 ⟨rfl,hbel⟩
   have HS:=znq (HS.znr.later hbel)
   go_simp
   refine hK _ _ hbel ?_
   clear hK K hbel
   refine zi rfl rfl (by rfl) (fun K hK=>?_)
   go_simp
   refine (JG va nv vc v _ HNV.znr (by omega) (HV.znr.below (HS.znr.old HBB.znr))).mono ?_
   rintro e w6 ⟨rfl,hbel⟩
   have HS:=znq (HS.znr.later hbel)
   go_simp
   refine hK _ _ hbel ?_
   clear hK K hbel
   refine zi rfl rfl (by rfl) (fun K hK=>?_)
   go_simp
   refine (YZ kp q p 0 5 k (block (qv v 128 16)) _ (HK.znr.later (HS.znr.old HBB.znr)) (by omega) (by omega) (zA _)).mono ?_
   rintro e w7 ⟨rfl,hbel⟩
   have HS:=znq (HS.znr.later hbel)
   go_simp
   refine hK _ _ hbel ?_
   clear hK K hbel
   have HE1:=znq (yo k 0 4 (block u))
   have HE2:=znq (yo k 0 5 (block (qv v 128 16)))
   generalize pM k 0 4 (block u)=e1 at *
   generalize pM k 0 5 (block (qv v 128 16))=e2 at *
   refine zi rfl rfl (by rfl) (fun K hK=>?_)
   refine y8 299 59 16 2 _ [e1.map B,e2.map B] rfl rfl Tryz.underlying299 zF rfl (by omega) rfl (by omega) (by omega) (by simp [HE1.znr,HE2.znr]) ?_
   intro w8 hb hbel
   have HS:=znq (HS.znr.later hbel)
   have HR:=znq (show yB 16 w8 (some ⟨w7.heap.size,0,none⟩) [e1,e2] from ⟨by simp [HE1.znr,HE2.znr],by have:=hb.lies;simpa using this⟩)
   refine hK _ _ hbel ?_
   clear hK K hbel hb
   go_simp
   refine zi rfl rfl (by rfl) (fun K hK=>?_)
   go_simp
   refine (yN (some ⟨w7.heap.size,0,none⟩) 2 2 [e1,e2] _ rfl (by omega) HR.znr).mono ?_
   rintro e w9 ⟨rfl,hbel⟩
   have HS:=znq (HS.znr.later hbel)
   rw [HE.znr.1]
   go_simp
   refine hK _ _ hbel ?_
   clear hK K hbel HR
   refine zp rfl rfl (by rfl) (fun K hK=>?_)
   refine (HS.znr.get 0 rfl).mZ rfl rfl rfl zc (by rw [yf];exact zd 16) (by rw [yf];exact HTL.znr) (zg _) (fun w10 sD rH=>hK _ _ ?_)
   clear hK K
   have nE:=zk HS.znr.bel rH (by omega)
   go_simp
   refine zo ?_
   go_wp2
   refine sD.result rfl rfl rfl zc (by rw [yf];exact HTL.znr) ⟨rfl,?_⟩
   rw [HBB.znr]
   exact nE
  ·have d1:((nu:Int)==16)=false:=by simp;omega
   have HE:=znq (show pM k 0 4 (block (qv u 128 16))=T∧True from ⟨by rw [← HTT.znr.1];unfold kh;rw [if_neg (by rw [HNU.znr];exact h0),if_neg (by rw [HNU.znr];exact h16)],trivial⟩)
   clear h0 h16
   go_wp2_with fail
   refine (JG ua nu uc u _ HNU.znr (by omega) (HU.znr.below (HS.znr.old HBB.znr))).mono ?_
   rintro e w3 ⟨rfl,hbel⟩
   have HS:=znq (HS.znr.later hbel)
   clear hbel
   go_wp2_with fail
   refine (YZ kp q p 0 4 k (block (qv u 128 16)) _ (HK.znr.later (HS.znr.old HBB.znr)) (by omega) (by omega) (zA _)).mono ?_
   rintro e w4 ⟨rfl,hbel⟩
   rw [HE.znr.1]
   have HS:=znq (HS.znr.later hbel)
   clear hbel
   go_wp2_with (refine (HS.znr.get 0 rfl).mM rfl rfl rfl rfl zc (by rw [yf];exact zd 16) (by rw [yf];exact HTL.znr) (zg _) ?_)
   intro w5 hb5 ho5
   have mX:=zk HS.znr.bel ho5 (by omega)
   go_wp2
   refine hb5.result rfl rfl rfl zc (by rw [yf];exact HTL.znr) ⟨rfl,?_⟩
   rw [HBB.znr]
   exact mX
end Go.Proofs.YtamdifhibogdiaaGreatDoor

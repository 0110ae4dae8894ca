/-
  Texts of this claim, one behind the other.
-/
import Derived.Test.YtamdifhibogdiaaGreatDoorRows
import Derived.Test.YtamdifhibogdiaaGreatDoorX1
import Derived.OrdersHeld
import Derived.Deep.RegionHeld3
import Derived.WalkKit
import Derived.Deep.QuietTactic
import Derived.BigQuiet
import Derived.Lib.Hide
set_option linter.unusedVariables false
set_option linter.unusedSimpArgs false
set_option maxHeartbeats 16000000
set_option maxRecDepth 100000
open Array renaming getD→gU
open List renaming range→uf
open Nat renaming le_refl→xc,lt_or_ge→bg
namespace Go.Proofs.YtamdifhibogdiaaGreatDoor
open RowKit Mem Ops Cells Oct
theorem kL:Row Tryz.prog 161 4:=⟨by kernel_rfl,by kernel_rfl⟩
theorem kM:Row Tryz.prog 127 8:=⟨by kernel_rfl,by kernel_rfl⟩
theorem zc:Row Tryz.prog 59 16:=⟨by kernel_rfl,by kernel_rfl⟩
theorem zj:(Tryz.prog.info? 59).map (·.zero)=some (some (.agg ((zf 16).map B).toArray)):=by kernel_rfl
theorem vJ:(Tryz.prog.info? 127).map (·.zero)=some (some (.agg ((zf 8).map B).toArray)):=by kernel_rfl
theorem Xq:(Tryz.prog.info? 161).map (·.zero)=some (some (.agg ((zf 4).map B).toArray)):=by kernel_rfl
theorem zl:(Tryz.prog.info? 5).map (·.size)=some 1:=by kernel_rfl
theorem Zy (n:UInt32) (w:World) :
  Calls Tryz.prog 195 #[W n] w fun e w'=>e=.returned (.agg ((nz n).map B).toArray)∧Below w.heap.size w w':=by
 go_enter Tryz.func195,Tryz.ntmps195
 go_wp2
 go_loopw [5] (fun i wr=>∃ (j:Nat) (l:List UInt8),j≤4∧i=.int .i64 j∧yg (fun k=>Xk (Y5 n (8*k))) 4 j l∧Blk wr w.heap.size ([0,0,0,0].map B) 161∧Blk wr (w.heap.size+1) (l.map B) 161∧Below w.heap.size w wr)
  (fun i _=>4 - (intOf i).toNat)
 case atStart =>
  have h0:=Blk.new (w.alloc (.cells #[.int .u8 0,.int .u8 0,.int .u8 0,.int .u8 0] 161)) ([0,0,0,0].map B) 161
  simp at h0
  exact ⟨0,[0,0,0,0],by omega,rfl,yg.zero rfl,(Blk.new w ([0,0,0,0].map B) 161).alloc _,h0,((Below.refl _ _).alloc (xc _) _).alloc (by simp) _⟩
 case round =>
  obtain ⟨j,l,hj,rfl,hL,hbr,hb,hbel⟩:=hrel
  by_cases hlt:j < 4
  ·obtain ⟨x,hx⟩:=hL.at hlt
   have hc:=hb.cell j _ (zU hx)
   have hf:=hb.free j
   have HB:=znq hb
   have HR:=znq hbr
   clear hb hbr hx
   go_wp2
   go_roundw
   case rel=>exact ⟨j+1,_,by omega,rfl,hL.step hlt,HR.znr.setOther (by simp) _,ym _ _ _ ▸ HB.znr.set j _,hbel.setCell (by simp) _⟩
   case measure=>simp [intOf];omega
  ·obtain rfl:j=4:=by omega
   have HB:=znq hb
   have HR:=znq hbr
   have HL:=znq hL
   clear hb hbr hL
   go_wp2_with (first | (refine HB.znr.mP rfl rfl rfl kL (by simp [HL.znr.1]) ?_) | (refine HR.znr.mM rfl rfl rfl rfl kL rfl (by simp [HL.znr.1]) (zg _) ?_))
   intro w' hb ho
   go_wp2
   refine hb.result rfl rfl rfl kL (by simp [HL.znr.1]) ?_
   rw [HL.znr.all]
   exact ⟨rfl,zk hbel ho (xc _)⟩
theorem kH (n:UInt64) (w:World) :
  Calls Tryz.prog 66 #[L n] w fun e w'=>e=.returned (.agg ((zz n).map B).toArray)∧Below w.heap.size w w':=by
 go_enter Tryz.func66,Tryz.ntmps66
 go_wp2
 go_loopw [5] (fun i wr=>∃ (j:Nat) (l:List UInt8),j≤8∧i=.int .i64 j∧yg (fun k=>Xm (yp n (8*k))) 8 j l∧Blk wr w.heap.size ([0,0,0,0,0,0,0,0].map B) 127∧Blk wr (w.heap.size+1) (l.map B) 127∧Below w.heap.size w wr)
  (fun i _=>8 - (intOf i).toNat)
 case atStart =>
  have h0:=Blk.new (w.alloc (.cells ([0,0,0,0,0,0,0,0].map B).toArray 127)) ([0,0,0,0,0,0,0,0].map B) 127
  simp at h0
  exact ⟨0,[0,0,0,0,0,0,0,0],by omega,rfl,yg.zero rfl,(Blk.new w ([0,0,0,0,0,0,0,0].map B) 127).alloc _,h0,((Below.refl _ _).alloc (xc _) _).alloc (by simp) _⟩
 case round =>
  obtain ⟨j,l,hj,rfl,hL,hbr,hb,hbel⟩:=hrel
  by_cases hlt:j < 8
  ·obtain ⟨x,hx⟩:=hL.at hlt
   have hc:=hb.cell j _ (zU hx)
   have hf:=hb.free j
   have HB:=znq hb
   have HR:=znq hbr
   clear hb hbr hx
   go_wp2
   go_roundw
   case rel=>exact ⟨j+1,_,by omega,rfl,hL.step hlt,HR.znr.setOther (by simp) _,ym _ _ _ ▸ HB.znr.set j _,hbel.setCell (by simp) _⟩
   case measure=>simp [intOf];omega
  ·obtain rfl:j=8:=by omega
   have HB:=znq hb
   have HR:=znq hbr
   have HL:=znq hL
   clear hb hbr hL
   go_wp2_with (first | (refine HB.znr.mP rfl rfl rfl kM (by simp [HL.znr.1]) ?_) | (refine HR.znr.mM rfl rfl rfl rfl kM rfl (by simp [HL.znr.1]) (zg _) ?_))
   intro w' hb ho
   go_wp2
   refine hb.result rfl rfl rfl kM (by simp [HL.znr.1]) ?_
   rw [HL.znr.all]
   exact ⟨rfl,zk hbel ho (xc _)⟩
def zi7 (w:World) (c1 c2:Nat) (at':Nat) (ao:Option Addr) (len cap:Nat):Prop :=
 w.cell? ⟨c1,0,none⟩=some (.int .i64 at')∧w.cell? ⟨c2,0,none⟩=some (.slice ao len cap)
theorem zlz (c1 c2:Nat) (ao:Option Addr) (len cap at' k:Nat) (bs:List UInt8) (w:World) (hlen:bs.length=len) (hb:at'≤1099511627776) (hk:k≤1099511627776) (hc:len≤1099511627776) (hl:zr w ao (bs.map B))
  (ht:zi7 w c1 c2 at' ao len cap) :
  Calls Tryz.prog 251 #[.int .i64 k,.pointer (some ⟨c1,0,none⟩),.pointer (some ⟨c2,0,none⟩)] w fun e w'=>e=.returned (B (at8 bs (at'+k)))∧w=w':=by
 obtain ⟨h1,h2⟩:=ht
 by_cases hlt:at'+k < len
 ·have hx:bs[at'+k]? = some (at8 bs (at'+k)):=q4 (by omega)
  generalize at8 bs (at'+k)=x at *
  obtain ⟨b,off,rfl,hcell⟩:=hl _ _ (zU hx)
  clear hl hlen hx
  have ht1:decide ((at':Int) > (len:Int) - 1 - k)=false:=by simp;omega
  go_enter Tryz.func251,Tryz.ntmps251
  go_wp2
  go_ret
  exact ⟨rfl,rfl⟩
 ·have hx:at8 bs (at'+k)=0:=XS (by omega)
  rw [hx]
  clear hl hx hlen
  go_enter Tryz.func251,Tryz.ntmps251
  go_wp2
  go_ret
  exact ⟨rfl,rfl⟩
theorem VY (many:Nat) (c1 c2:Nat) (ao:Option Addr) (len cap at':Nat) (bs:List UInt8) (w:World) (hm:many≤8) (hlen:bs.length=len) (hb:at'≤1099511627776) (hc:len≤1099511627776) (hl:zr w ao (bs.map B))
  (ht:zi7 w c1 c2 at' ao len cap) :
  Calls Tryz.prog 212 #[.int .i64 many,.func (.func 251) #[] #[.pointer (some ⟨c1,0,none⟩),.pointer (some ⟨c2,0,none⟩)]] w fun e w'=>e=.returned (L (Z9 (fun k=>at8 bs (at'+k)) many))∧w=w':=by
 have HLEN:=znq hlen
 have HL:=znq hl
 have HT:=znq ht
 clear hlen hl ht
 go_enter Tryz.func212,Tryz.ntmps212
 go_wp2
 go_loopw [5,8] (fun n i wr=>∃ j:Nat,j≤many∧i=.int .i64 j∧n=L (Z9 (fun k=>at8 bs (at'+k)) j)∧w=wr) (fun _ i _=>many - (intOf i).toNat)
 case atStart=>exact ⟨0,Nat.zero_le _,rfl,rfl,rfl⟩
 case round =>
  obtain ⟨j,hj,rfl,rfl,rfl⟩:=hrel
  by_cases hlt:j < many
  ·go_wp2_with fail
   refine (zlz c1 c2 ao len cap at' j bs _ HLEN.znr hb (by omega) hc HL.znr HT.znr).mono ?_
   rintro e w1 ⟨rfl,rfl⟩
   go_wp2
   go_roundw
   case rel=>exact ⟨j+1,by omega,rfl,rfl,by trivial⟩
   case measure=>simp [intOf];omega
  ·obtain rfl:j=many:=by omega
   go_wp2
   go_ret
   exact ⟨rfl,by trivial⟩
theorem VZ (ao:Option Addr) (len cap at':Nat) (w:World) :
  Calls Tryz.prog 213 #[.slice ao len cap,.int .i64 at'] w fun e w'=>∃ c1 c2,e=.returned (.func (.func 251) #[] #[.pointer (some ⟨c1,0,none⟩),.pointer (some ⟨c2,0,none⟩)])∧zi7 w' c1 c2 at' ao len cap∧Below w.heap.size w w':=by
 go_enter Tryz.func213,Tryz.ntmps213
 go_wp2
 go_ret
 exact ⟨_,_,rfl,⟨by simp,by simp⟩,((Below.refl _ _).alloc (xc _) _).alloc (by simp) _⟩
theorem kZ (ao:Option Addr) (len cap at':Nat) (bs:List UInt8) (w:World) (hlen:bs.length=len) (hb:at'≤1099511627776) (hc:len≤1099511627776) (hl:zr w ao (bs.map B)) :
  Calls Tryz.prog 196 #[.slice ao len cap,.int .i64 at'] w fun e w'=>e=.returned (W (yU bs at'))∧Below w.heap.size w w':=by
 have HLEN:=znq hlen
 have HL:=znq hl
 clear hlen hl
 go_enter Tryz.func196,Tryz.ntmps196
 go_wp2_with fail
 refine (VZ _ _ _ _ _).mono ?_
 rintro e w1 ⟨c1,c2,rfl,ht,hbel⟩
 have HT:=znq ht
 clear ht
 go_wp2_with fail
 refine (VY 4 c1 c2 ao len cap at' bs _ (by omega) HLEN.znr hb hc (HL.znr.below hbel) HT.znr).mono ?_
 rintro e w2 ⟨rfl,rfl⟩
 go_wp2
 go_ret
 exact ⟨rfl,hbel⟩
theorem WL (ao:Option Addr) (len cap at':Nat) (bs:List UInt8) (w:World) (hlen:bs.length=len) (hb:at'≤1099511627776) (hc:len≤1099511627776) (hl:zr w ao (bs.map B)) :
  Calls Tryz.prog 179 #[.slice ao len cap,.int .i64 at'] w fun e w'=>e=.returned (L (pJ bs at'))∧Below w.heap.size w w':=by
 have HLEN:=znq hlen
 have HL:=znq hl
 clear hlen hl
 go_enter Tryz.func179,Tryz.ntmps179
 go_wp2_with fail
 refine (VZ _ _ _ _ _).mono ?_
 rintro e w1 ⟨c1,c2,rfl,ht,hbel⟩
 have HT:=znq ht
 clear ht
 go_wp2_with fail
 refine (VY 8 c1 c2 ao len cap at' bs _ (by omega) HLEN.znr hb hc (HL.znr.below hbel) HT.znr).mono ?_
 rintro e w2 ⟨rfl,rfl⟩
 go_wp2
 go_ret
 exact ⟨rfl,hbel⟩
end Go.Proofs.YtamdifhibogdiaaGreatDoor
namespace Go
open RowKit
def zW (w w':World):Prop:=Below w.heap.size w w'
theorem zW.refl (w:World):zW w w:=Below.refl _ _
theorem zW.trans {a b c:World} (h:zW a b) (k:zW b c):zW a c:=Below.trans h (Below.mono k h.size)
theorem RowKit.Below.later {B:Nat} {w w1 w':World} (h:Below B w w1) (hB:B≤w.heap.size) (k:zW w1 w'):Below B w w':=h.trans (Below.mono k (Nat.le_trans hB h.size))
def Oper.nR (o:Oper):Nat :=
 match o.op with
 | .move _ | .assign _ | .pick .. | .load .. | .nilCheck _ | .binOp .. | .unOp .. | .fieldAddr .. | .field .. | .indexAddr .. | .index .. | .extract .. | .slice .. | .makeFunc .. | .makeInterface .. | .build .. | .typeAssert ..=>0
 | .convert .. | .sliceToArrayPointer ..=>0
 | .call c=>match c.callee with
  | .builtin .len | .builtin .cap | .builtin .real | .builtin .imag | .builtin .complex | .builtin .min | .builtin .max=>0
  | .builtin .append | .builtin .copy=>2
  | .builtin _=>2
  | _=>1
 | .alloc _ | .box .. | .buildSlice .. | .makeSlice ..=>1
 | _=>2
section
variable {P:Program} {ops:Array Oper} {Q:Exit→Act→World→Prop} {md:Region.Mode}
def qJ (P:Program) (md:Region.Mode) (ops:Array Oper) (Q:Exit→Act→World→Prop):Nat→Array Bool→Act→World→Prop
 | 0,listed,a,w=>Region.ready md ops listed=[]∧Q .normal a w
 | fuel+1,listed,a,w =>
  (Region.ready md ops listed=[]→Q .normal a w) ∧
  ∀ i∈Region.ready md ops listed,wpOp P ops Q i (fun a' w'=>((ops[i]?).map Oper.nR≠some 2→zW w w')∧qJ P md ops Q fuel (listed.setIfInBounds i true) a' w') a w
theorem vK:∀ (fuel:Nat) (listed:Array Bool) (a:Act) (w:World),qJ P md ops Q fuel listed a w→wpAny P md ops Q fuel listed a w
 | 0,_,_,_,h=>h
 | fuel+1,_,_,_,h=>⟨h.1,fun i hi=>wpOp_mono (fun a' w' h'=>vK fuel _ a' w' h'.2) (h.2 i hi)⟩
theorem YieldsIf.later {o:Oper} {v:Value} {a:Act} {w w':World} (h:YieldsIf P ops (zW w) o v a) (hw:zW w w'):YieldsIf P ops (zW w') o v a :=
 h.imp (fun ⟨h1,h2⟩=>⟨h1,fun x hx=>h2 x (hw.trans hx)⟩) id
theorem vg {i:Nat} {oi:Oper} {v:Value} (hi:ops[i]? = some oi) (hsel:∀ (j:Nat) (o:Oper) cs b,ops[j]? = some o→o.op≠.select cs b)
  (hQ:∀ c a w,Q (.panic c) (a.put oi.dst v) w→Q (.panic c) a w) (D:Nat→Bool) (hDi:D i=false)
  (hD:∀ d,D d=true→∃ od,ops[d]? = some od∧∃ e∈od.after,Region.binds md e=true∧(e.on=i∨D e.on=true)) :
  ∀ (fuel:Nat) (listed:Array Bool) (a:Act) (w:World),
   (∀ d,D d=true→listed.getD d true=false) →
   (∀ j oj,ops[j]? = some oj→j≠i→listed.getD j true=false→D j=false→oi.apart ops oj=true∧oj.nR≠2) →
   i∈Region.ready md ops listed→YieldsIf P ops (zW w) oi v a →
   qJ P md ops Q fuel (listed.setIfInBounds i true) (a.put oi.dst v) w→qJ P md ops Q (fuel+1) listed a w:=by
 intro fuel
 induction fuel with
 | zero =>
  intro listed a w _ _ hr hy H
  refine ⟨fun h=>(by rw [h] at hr;cases hr),fun j hj=>?_⟩
  by_cases hji:j=i
  ·subst hji;exact hy.wpOp hi (zW.refl w) ⟨fun _=>zW.refl w,H⟩
  ·have:=ready_mono hj hji
   rw [H.1] at this
   cases this
 | succ fuel ih =>
  intro listed a w hun hfree hr hy H
  refine ⟨fun h=>(by rw [h] at hr;cases hr),fun j hj=>?_⟩
  by_cases hji:j=i
  ·subst hji;exact hy.wpOp hi (zW.refl w) ⟨fun _=>zW.refl w,H⟩
  ·have h1:=H.2 j (ready_mono hj hji)
   obtain ⟨hjun,oj,hoj,hall⟩:=mem_ready.1 hj
   have hget:∀ k,listed.getD k true=false→(listed[k]?).getD true=false:=fun k hk=>by
    rcases bg k listed.size with h' | h'
    ·simpa [gU,h'] using hk
    ·simp [gU,Nat.not_lt.2 h'] at hk
   have hDj:D j=false:=by
    cases hdj:D j with
    | false=>rfl
    | true =>
     obtain ⟨od,hod,e,he,hb,hon⟩:=hD j hdj
     rw [hoj] at hod
     cases hod
     have h1:=hall e he hb
     have h0:listed.getD e.on true=false:=by
      rcases hon with h | h
      ·rw [h];exact (mem_ready.1 hr).1
      ·exact hun _ h
     rcases bg e.on listed.size with h' | h'
     ·simp [h'] at h0 h1;rw [h0] at h1;cases h1
     ·simp [Array.getElem?_eq_none h'] at h1
   have hfj:=hfree j oj hoj hji hjun hDj
   have hkj:(ops[j]?).map Oper.nR≠some 2:=by rw [hoj];simpa using hfj.2
   have h2:=wpOp_putIf hoj hfj.1 (fun cs b=>hsel i oi cs b hi) (fun cs b=>hsel j oj cs b hoj) hQ hy h1
   have hun':∀ d,D d=true→(listed.setIfInBounds j true).getD d true=false:=fun d hd=>by
    have hne:j≠d:=by rintro rfl;rw [hDj] at hd;cases hd
    rw [getD_set_ne true hne]
    exact hun d hd
   have hfree':∀ k ok,ops[k]? = some ok→k≠i→(listed.setIfInBounds j true).getD k true=false →
     D k=false→oi.apart ops ok=true∧ok.nR≠2:=fun k ok hk hki hun hno=>by
    refine hfree k ok hk hki ?_ hno
    by_cases hjk:j=k
    ·subst hjk;exact hjun
    ·rw [getD_set_ne true hjk] at hun;exact hun
   refine wpOp_mono (fun a' w' h3=>⟨h3.2.1,ih (listed.setIfInBounds j true) a' w' hun' hfree' (ready_mono hr (Ne.symm hji)) (h3.1.later (h3.2.1 hkj)) ?_⟩) h2
   rw [Array.setIfInBounds_comm _ _ hji]
   exact h3.2.2
def Region.pO (md:Region.Mode) (ops:Array Oper) (listed:Array Bool) (i:Nat):List Nat :=
 (uf ops.size).foldl (fun D j=>if listed.getD j true || j==i then D else match ops[j]? with
  | none=>D
  | some oj=>if oj.after.any (fun e=>Region.binds md e && (e.on==i || D.contains e.on)) then j::D else D) []
def Region.zdH (md:Region.Mode) (ops:Array Oper) (listed:Array Bool) (i:Nat) (oi:Oper) (D:List Nat):Bool :=
 !D.contains i &&
 D.all (fun d=>!(listed.getD d true) && match ops[d]? with
  | some od=>od.after.any (fun e=>Region.binds md e && (e.on==i || D.contains e.on))
  | none=>false) &&
 (uf ops.size).all fun j=>j==i || listed.getD j true || D.contains j || match ops[j]? with
  | some oj=>oi.apart ops oj && oj.nR != 2
  | none=>true
def Region.zaI (md:Region.Mode) (ops:Array Oper) (listed:Array Bool) (i:Nat):Bool :=
 match ops[i]? with
 | none=>false
 | some oi=>Region.zdH md ops listed i oi (Region.pO md ops listed i)
theorem Region.rW {i:Nat} {oi:Oper} {listed:Array Bool} (hi:ops[i]? = some oi) (h:Region.zaI md ops listed i=true) :
  ∃ D:Nat→Bool,D i=false∧(∀ d,D d=true→∃ od,ops[d]? = some od∧∃ e∈od.after,Region.binds md e=true∧(e.on=i∨D e.on=true)) ∧
   (∀ d,D d=true→listed.getD d true=false) ∧
   (∀ j oj,ops[j]? = some oj→j≠i→listed.getD j true=false→D j=false→oi.apart ops oj=true∧oj.nR≠2):=by
 unfold Region.zaI at h
 simp only [hi] at h
 generalize Region.pO md ops listed i=L at h
 unfold Region.zdH at h
 rw [Bool.and_eq_true,Bool.and_eq_true] at h
 obtain ⟨⟨h1,h2⟩,h3⟩:=h
 rw [List.all_eq_true] at h2 h3
 refine ⟨fun d=>L.contains d,by simpa using h1,fun d hd=>?_,fun d hd=>?_,fun j oj hj hne hun hnd=>?_⟩
 ·have:=h2 d (by simpa using hd)
  rw [Bool.and_eq_true] at this
  cases hod:ops[d]? with
  | none=>simp [hod] at this
  | some od =>
   have h4:=this.2
   simp only [hod] at h4
   obtain ⟨e,he,hb⟩:=Array.any_eq_true'.1 h4
   rw [Bool.and_eq_true,Bool.or_eq_true] at hb
   exact ⟨od,rfl,e,he,hb.1,hb.2.imp (fun h=>by simpa using h) id⟩
 ·have:=h2 d (by simpa using hd)
  rw [Bool.and_eq_true] at this
  simpa using this.1
 ·have hlt:j < ops.size:=(Array.getElem?_eq_some_iff.1 hj).1
  have:=h3 j (List.mem_range.2 hlt)
  have e1:(j==i)=false:=by simpa using hne
  simp only at hnd
  rw [e1,hun,hnd,Bool.false_or,Bool.false_or,Bool.false_or] at this
  simp only [hj,Bool.and_eq_true] at this
  exact ⟨this.1,by simpa using this.2⟩
def Region.si (md:Region.Mode) (ops:Array Oper):List Nat→Array Bool→Bool
 | [],listed=>Region.ready md ops listed==[]
 | i::r,listed =>
  (match ops[i]? with
   | none=>false
   | some o=>if o.nR=0 then (Region.ready md ops listed).contains i && Region.zaI md ops listed i else Region.ready md ops listed==[i]) &&
  Region.si md ops r (listed.setIfInBounds i true)
def zE (P:Program) (ops:Array Oper) (Q:Exit→Act→World→Prop):List Nat→Act→World→Prop
 | [],a,w=>Q .normal a w
 | i::r,a,w =>
  match ops[i]? with
  | none=>False
  | some o =>
   if Region.wanted o (yielded ops a.tmps)=true then
    (if o.nR=0 then ∃ v,(∀ w',zW w w'→(execOp a.eval o).run P w'=.ok (.value v) w')∧zE P ops Q r (a.put o.dst v) w
     else o.wp P a w (fun a' w'=>(o.nR≠2→zW w w')∧zE P ops Q r a' w') Q)
   else zE P ops Q r (a.put o.dst undef) w
theorem xu (hs:Region.noSelect ops=true) (hQ:∀ c a w,¬ Q (.panic c) a w):∀ (order:List Nat) (listed:Array Bool) (a:Act) (w:World),
  Region.si md ops order listed=true→zE P ops Q order a w→qJ P md ops Q order.length listed a w
 | [],listed,a,w,hB,h=>by
  simp only [Region.si,beq_iff_eq] at hB
  exact ⟨hB,h⟩
 | i::r,listed,a,w,hB,h=>by
  simp only [Region.si,Bool.and_eq_true] at hB
  obtain ⟨hB1,hB2⟩:=hB
  cases ho:ops[i]? with
  | none=>simp [ho] at hB1
  | some o =>
   simp only [ho] at hB1
   simp only [zE,ho] at h
   by_cases hk:o.nR=0
   ·simp only [hk,if_true,Bool.and_eq_true] at hB1 h
    by_cases hw:Region.wanted o (yielded ops a.tmps)=true
    ·rw [if_pos hw] at h
     obtain ⟨v,hv,hr⟩:=h
     obtain ⟨D,hDi,hD,hDu,hDf⟩:=Region.rW ho hB1.2
     exact vg ho (Region.noSelect_spec hs) (fun c a w hq=>absurd hq (hQ _ _ _)) D hDi hD r.length listed a w hDu hDf (by simpa using hB1.1) (.inl ⟨hw,hv⟩)
      (xu hs hQ r _ _ _ hB2 hr)
    ·rw [if_neg hw] at h
     obtain ⟨D,hDi,hD,hDu,hDf⟩:=Region.rW ho hB1.2
     exact vg ho (Region.noSelect_spec hs) (fun c a w hq=>absurd hq (hQ _ _ _)) D hDi hD r.length listed a w hDu hDf (by simpa using hB1.1) (.inr ⟨by simpa using hw,rfl⟩)
      (xu hs hQ r _ _ _ hB2 h)
   ·simp only [hk,if_false,beq_iff_eq] at hB1 h
    refine ⟨fun h0=>(by rw [hB1] at h0;cases h0),fun j hj=>?_⟩
    rw [hB1] at hj
    obtain rfl:j=i:=by simpa using hj
    unfold wpOp
    simp only [ho]
    by_cases hw:Region.wanted o (yielded ops a.tmps)=true
    ·rw [if_pos hw] at h ⊢
     refine .inl (Oper.wp_mono ?_ h)
     intro a' w' h'
     refine ⟨fun hne=>h'.1 (by simpa using hne),xu hs hQ r _ _ _ hB2 h'.2⟩
    ·rw [if_neg hw] at h ⊢
     exact ⟨fun _=>zW.refl w,xu hs hQ r _ _ _ hB2 h⟩
theorem zn {id:Nat} {l:List Oper} {a:Act} {w:World} (order:List Nat) (hm:P.follows .mixedOrders=true)
  (hB:(Region.noSelect l.toArray && (order.length==l.length) && Region.si .any l.toArray order (Array.replicate l.length false))=true)
  (h:∀ w',w'=w.drew→zE P l.toArray (NoPanic Q) order a w'):(Code.region id l.toArray true).wp P Q a w:=by
 simp only [Bool.and_eq_true,beq_iff_eq] at hB
 obtain ⟨⟨hs,hl⟩,hB⟩:=hB
 refine wp_region_noPanic (wp_region_any hm (vK _ _ _ _ ?_))
 have:=xu (P:=P) (Q:=NoPanic Q) hs (fun c a w hq=>hq) order _ a w.drew hB (h _ rfl)
 rw [hl] at this
 exact this
theorem zo {a:Act} {w:World} (h:Q .normal a w):zE P ops (NoPanic Q) [] a w:=h
theorem V0 {i:Nat} {r:List Nat} {o:Oper} {a:Act} {w:World} {v:Value} (ho:ops[i]? = some o) (hk:o.nR=0) (hw:Region.wanted o (yielded ops a.tmps)=true)
  (hv:∀ w',zW w w'→(execOp a.eval o).run P w'=.ok (.value v) w') (h:∀ K:Act→Prop,(∀ a',zE P ops Q r a' w→K a')→K (a.put o.dst v)):zE P ops Q (i::r) a w:=by
 simp only [zE,ho,hk,hw,if_true]
 exact ⟨v,hv,h _ fun _ h=>h⟩
theorem zi {i:Nat} {r:List Nat} {o:Oper} {a:Act} {w:World} (ho:ops[i]? = some o) (hk:o.nR=1) (hw:Region.wanted o (yielded ops a.tmps)=true)
  (h:∀ K:Act→World→Prop,(∀ a' w',zW w w'→zE P ops Q r a' w'→K a' w')→o.wp P a w K Q):zE P ops Q (i::r) a w:=by
 simp only [zE,ho,hk,hw,if_true]
 exact h _ fun _ _ h1 h2=>⟨fun _=>h1,h2⟩
theorem zp {i:Nat} {r:List Nat} {o:Oper} {a:Act} {w:World} (ho:ops[i]? = some o) (hk:o.nR=2) (hw:Region.wanted o (yielded ops a.tmps)=true)
  (h:∀ K:Act→World→Prop,(∀ a' w',zE P ops Q r a' w'→K a' w')→o.wp P a w K Q):zE P ops Q (i::r) a w:=by
 simp only [zE,ho,hk,hw,if_true]
 exact h _ fun _ _ h2=>⟨fun h1=>absurd rfl h1,h2⟩
end
end Go
namespace Go
open RowKit
section
variable {P:Program} {ops:Array Oper} {Q:Exit→Act→World→Prop}
structure zG (w:World) where
 val:World
 later:zW w val
abbrev zd9 (w:World):World→Prop:=fun w'=>∃ x:zG w,w'=x.val
instance (w:World):Nonempty (zG w):=⟨⟨w,zW.refl w⟩⟩
theorem KZ (s:Sem Value) (w w':World) (n:Next) (h:Sem.run P (do let x ← s;pure (Next.value x)) w=.ok n w'):∃ u,n=.value u:=by
 rw [Sem.run_bind] at h
 cases hs:s.run P w with
 | ok x w1 =>
  rw [hs] at h
  simp only [Result.andThen,Sem.run_pure] at h
  cases h
  exact ⟨x,rfl⟩
 | halt x w1=>rw [hs] at h;cases h
theorem K0 {o:Oper} {ρ:Operand→Value} {w w':World} {n:Next} (hk:o.nR=0) (h:(execOp ρ o).run P w=.ok n w'):∃ u,n=.value u:=by
 unfold Oper.nR at hk
 unfold execOp at h
 cases hop:o.op
 case call c =>
  simp only [hop] at hk h
  cases hc:c.callee with
  | builtin b =>
   simp only [hc] at hk
   cases b <;> simp only [reduceCtorEq] at hk <;> first
    | (cases hk;done)
    | (simp only [resolve,hc,Sem.run_bind,Sem.run_pure,Result.andThen_ok,invoke,builtin] at h;exact KZ _ _ _ _ (by simpa only [Sem.run_bind,Sem.run_pure] using h))
  | value f=>simp only [hc] at hk;cases hk
  | invoke r m=>simp only [hc] at hk;cases hk
 case pick c a b =>
  simp only [hop] at h
  rw [Sem.run_bind] at h
  cases hp:(asBool (ρ c)).run P w with
  | halt x w1=>rw [hp] at h;cases h
  | ok p w1 =>
   rw [hp] at h
   simp only [Result.andThen,Sem.run_pure] at h
   cases h
   exact ⟨_,rfl⟩
 case nilCheck x =>
  simp only [hop] at h
  split at h
  all_goals try (simp [runtimePanic,goPanic] at h;done)
  all_goals try (rw [Sem.run_pure] at h;cases h;exact ⟨_,rfl⟩)
  all_goals try split at h
  all_goals try (simp [runtimePanic,goPanic] at h;done)
  all_goals try (rw [Sem.run_pure] at h;cases h;exact ⟨_,rfl⟩)
  rw [Sem.run_bind] at h
  cases hp:(program).run P w with
  | halt x w1=>rw [hp] at h;cases h
  | ok p w1 =>
   rw [hp] at h
   simp only [Result.andThen,Sem.run_bind] at h
   split at h
   ·split at h
    ·simp [unsupported] at h
    ·simp only [Sem.run_pure] at h
     cases h
     exact ⟨_,rfl⟩
   ·cases h
 all_goals
  simp only [hop] at hk h
  first
   | (cases hk;done)
   | exact KZ _ _ _ _ h
   | (rw [Sem.run_pure] at h;cases h;exact ⟨_,rfl⟩)
theorem xv {C:World→Prop} {o:Oper} {a:Act} {w:World} {v:Value} (hk:o.nR=0) (h:o.quietAt P a C w v):(execOp a.eval o).run P w=.ok (.value v) w:=by
 unfold Oper.quietAt at h
 cases hr:(execOp a.eval o).run P w with
 | halt x w'=>rw [hr] at h;exact h.elim
 | ok n w' =>
  obtain ⟨u,rfl⟩:=K0 hk hr
  rw [hr] at h
  simp only [Oper.quietUpon] at h
  rw [h.1,h.2]
theorem vE {i:Nat} {r:List Nat} {o:Oper} {tl:List Oper} {a:Act} {w:World} (hd:ops.toList.drop i=o::tl) (hk:o.nR=0)
  (hh:∀ K:Act→Prop,(∀ a',zE P ops Q r a' w→K a')→wpQuiet P ops (zd9 w) K [o] a):zE P ops Q (i::r) a w:=by
 have h:=hh (fun a'=>zE P ops Q r a' w) (fun _ h=>h)
 have ho:ops[i]? = some o:=by
  have:=congrArg (·[0]?) hd
  simpa using this
 simp only [wpQuiet] at h
 simp only [zE,ho,hk,if_true]
 by_cases hw:Region.wanted o (yielded ops a.tmps)=true
 ·rw [if_pos hw] at h ⊢
  obtain ⟨v,hv,hn⟩:=h
  exact ⟨v,fun w' hw'=>xv hk (hv w' ⟨⟨w',hw'⟩,rfl⟩),hn⟩
 ·rw [if_neg hw] at h ⊢
  exact h
end
end Go

/-
  Texts of this claim, one behind the other.
-/
import Derived.Test.YtbpghohkhngdfaaGreatDoorQ5
import Derived.Test.YtbpghohkhngdfaaGreatDoorQ1
import Derived.Test.YtbpghohkhngdfaaGreatDoorQ25
import Derived.Test.YtbpghohkhngdfaaGreatDoorQ22
import Derived.Test.YtbpghohkhngdfaaGreatDoorQ10
import Derived.Deep.Slices
import Derived.ChangeArms
import Derived.ChangeSlices
import Derived.ChangeShapes
import Derived.Lib.SmallJoins
import Derived.Laws.Append
import Derived.Laws.AppendOwn
import Derived.Lib.Hide
set_option linter.unusedVariables false
set_option linter.unusedSimpArgs false
set_option maxHeartbeats 16000000
set_option maxRecDepth 100000
namespace Go.Open
open Go.RowKit Go.Mem Go.Ops Go.Cells Go.Oct Go.ChangeShapes Go.WideShapes
structure zln (n:Nat) (w:World) (ao:Option Addr) (vs:List (List Value)):Prop where
 each:∀ v∈vs,v.length=n
 lies:zr w ao vs.flatten
theorem zdx (n:Nat):∀ (vs:List (List Value)) (i j:Nat) (v:List Value),(∀ v∈vs,v.length=n)→vs[i]? = some v→j < n→vs.flatten[n*i+j]? = v[j]?
 | [],i,j,v,_,hi,_=>by cases hi
 | x::vs,0,j,v,hv,hi,hj=>by
  simp at hi;subst hi
  have:=hv x (by simp)
  rw [List.flatten_cons,Nat.mul_zero,Nat.zero_add,List.getElem?_append_left (by omega)]
 | x::vs,i+1,j,v,hv,hi,hj=>by
  have:=hv x (by simp)
  rw [List.getElem?_cons_succ] at hi
  rw [List.flatten_cons,List.getElem?_append_right (by rw [Nat.mul_succ];omega),this,show n*(i+1)+j - n=n*i+j by rw [Nat.mul_succ];omega]
  exact zdx n vs i j v (fun u hu=>hv u (List.mem_cons_of_mem _ hu)) hi hj
theorem zln.range {n:Nat} {w:World} {ao:Option Addr} {vs:List (List Value)} (h:zln n w ao vs) (hn:0 < n) {i:Nat} {v:List Value} (hi:vs[i]? = some v) :
  ∃ b off,ao=some ⟨b,off,none⟩∧b < w.heap.size∧w.rangeAt b (off+i*n) v:=by
 have hk:=h.each v (List.mem_of_getElem? hi)
 have hat:∀ j u,v[j]? = some u→vs.flatten[n*i+j]? = some u:=fun j u hu=>by
  have hj:j < n:=by
   rcases Nat.lt_or_ge j n with h | h
   ·exact h
   ·rw [List.getElem?_eq_none (by omega)] at hu;cases hu
  rw [zdx n vs i j v h.each hi hj]
  exact hu
 obtain ⟨b,off,rfl,hc⟩:=h.lies _ _ (hat 0 (v[0]'(by omega)) (by simp))
 refine ⟨b,off,rfl,block_lt_of_cell hc,fun j u hu=>?_⟩
 obtain ⟨b',off',e,hc'⟩:=h.lies _ _ (hat j u hu)
 cases e
 rw [show off+i*n+j=off+(n*i+j) by rw [Nat.mul_comm i n];omega]
 exact hc'
def Fit (n:Int):Prop:=-9223372036854775808≤n∧n≤9223372036854775807
theorem open_bytes {H:Type} {enc:TypeId×Value→H} {P:Program} {w:World} {base:Nat} {spare:Nat→Bool} {held:Bool} {t e:TypeId} {fuel:Nat} {cs:List Value} {x:DataW H×List MemPlace}
  (ht:P.underlying t=some (.slice e)) (he:P.underlying e=some (.int .u8)) (hc:P.cellsOf e=1) (h:DataW.trod enc P w base spare held fuel t cs=some x) :
  ∃ (ao:Option Addr) (cap:Nat) (bs:List UInt8),cs=[.slice ao bs.length cap]∧bs.length≤cap∧cap≤maxLen∧zr w ao (bs.map B):=by
 rcases open_ints ht he hc h with ⟨rfl,_⟩ | ⟨x,l,c,zs,rfl,_,hl,hm,hz,_,hcell,hwz⟩
 ·exact ⟨none,0,[],rfl,Nat.le_refl _,by simp [maxLen],zr.nil _ _⟩
 ·have hz':l≤zs.length:=by rw [hz];split <;> omega
  obtain ⟨bs,h1,h2,h3,h4⟩:=Go.Mem.bytes_of_row (w:=w) (a:=some x) (len:=l) (cap:=zs.length) (zs:=zs)
   (.inr ⟨x,rfl,hz',by rw [hz];split <;> omega,rfl,hcell,hwz⟩)
  exact ⟨some x,c,bs,by rw [h1],by omega,hm,h4⟩
structure zdy where
 d:Int
 n:Int
 po:Option Addr
 pc:Nat
 p:List UInt8
 so:Option Addr
 sc:Nat
 s:List UInt8
def zdy.vals (x:zdy):List Value:=[.int .i64 x.d,.int .i64 x.n,.slice x.po x.p.length x.pc,.slice x.so x.s.length x.sc]
structure zdy.In (w:World) (x:zdy):Prop where
 d:Fit x.d
 n:Fit x.n
 p:zr w x.po (x.p.map B)
 s:zr w x.so (x.s.map B)
 pc:x.p.length≤x.pc∧x.pc≤maxLen
 sc:x.s.length≤x.sc∧x.sc≤maxLen
structure zlo (w:World) (ao:Option Addr) (xs:List zdy):Prop where
 rows:zln 4 w ao (xs.map zdy.vals)
 each:∀ x∈xs,x.In w
theorem zlo.at {w:World} {ao:Option Addr} {xs:List zdy} (h:zlo w ao xs) {i:Nat} {x:zdy} (hi:xs[i]? = some x) :
  x.In w∧∃ b off,ao=some ⟨b,off,none⟩∧b < w.heap.size∧w.rangeAt b (off+i*4) x.vals :=
 ⟨h.each x (List.mem_of_getElem? hi),h.rows.range (by omega) (by simp [hi])⟩
end Go.Open
namespace Go.Joins
open Go.ChangeShapes Go.WideShapes Go.RowKit Go.Deep Go.WideElems Go.Maps
variable {H:Type} {enc:TypeId×Value→H} {P:Program} {w:World} {base:Nat} {spare:Nat→Bool} {held:Bool}
theorem array5 {α:Type} {cs:Array α} (h:cs.size=5):∃ c0 c1 c2 c3 c4,cs=#[c0,c1,c2,c3,c4]:=by
 obtain ⟨l⟩:=cs
 match l,h with
 | [c0,c1,c2,c3,c4],_=>exact ⟨c0,c1,c2,c3,c4,rfl⟩
theorem open_agg5 {r:Reach} {b0:Nat} {t:TypeId} {f0 f1 f2 f3 f4:Field} {v:Value} {d:DataW H} {p:List MemPlace} (hs:P.underlying t=some (.struct #[f0,f1,f2,f3,f4])) (hone:oneCellFields P #[f0,f1,f2,f3,f4]=true) (hC:P.cellsOf t=5)
  (hv:Value.okWide P w r b0 t v) (h:DataW.Trod enc P w base spare held t v d p) :
  ∃ (v0 v1 v2 v3 v4:Value) (y0 y1 y2 y3 y4:DataW H×List MemPlace) (n:Nat),v=.agg #[v0,v1,v2,v3,v4]∧d=.agg [y0.1,y1.1,y2.1,y3.1,y4.1]∧p=y0.2++(y1.2++(y2.2++(y3.2++y4.2))) ∧
   DataW.trod enc P w base spare held n f0.type [v0]=some y0∧DataW.trod enc P w base spare held n f1.type [v1]=some y1∧DataW.trod enc P w base spare held n f2.type [v2]=some y2∧DataW.trod enc P w base spare held n f3.type [v3]=some y3∧DataW.trod enc P w base spare held n f4.type [v4]=some y4:=by
 obtain ⟨cs,rfl,hsz⟩:=okWide_struct hs hv
 obtain ⟨c0,c1,c2,c3,c4,rfl⟩:=array5 (hsz.trans hC)
 obtain ⟨fuel,hf⟩:=h
 obtain ⟨xs,n,_,hx,hl,hlen,hfs⟩:=DataW.trod_struct hs hf
 match xs,hlen,hx,hfs with
 | [y0,y1,y2,y3,y4],_,hx,hfs =>
  obtain ⟨o0,k0⟩:=hone_of hone 0 f0 rfl
  obtain ⟨o1,k1⟩:=hone_of hone 1 f1 rfl
  obtain ⟨o2,k2⟩:=hone_of hone 2 f2 rfl
  obtain ⟨o3,k3⟩:=hone_of hone 3 f3 rfl
  obtain ⟨o4,k4⟩:=hone_of hone 4 f4 rfl
  simp only [Prod.mk.injEq] at hx
  have h0:=hfs 0 f0 rfl
  have h1:=hfs 1 f1 rfl
  have h2:=hfs 2 f2 rfl
  have h3:=hfs 3 f3 rfl
  have h4:=hfs 4 f4 rfl
  exact ⟨c0,c1,c2,c3,c4,y0,y1,y2,y3,y4,n,rfl,by simpa using hx.1,by simpa using hx.2,by simpa [Value.cells,o0,k0] using h0,by simpa [Value.cells,o1,k1] using h1,by simpa [Value.cells,o2,k2] using h2,by simpa [Value.cells,o3,k3] using h3,by simpa [Value.cells,o4,k4] using h4⟩
end Go.Joins
namespace Go.Proofs.YtbpghohkhngdfaaGreatDoor
open Go.RowKit Go.Mem Go.Ops Go.Cells Go.Oct Go.Gf Go.Trn Go.Aes Go.Ring Go.Ezk Go.Ezh Go.Ezt Go.Ezc Go.Aez Go.Blake Go.CutP Go.Fl Go.Adi Go.Hct Go.Wid
attribute [local irreducible] zE zN zO zM yu
theorem znp (alg:Int) (a1:Option Addr) (n1 c1:Nat) (b1:List UInt8) (a2:Option Addr) (n2 c2:Nat) (b2:List UInt8) (a3:Option Addr) (n3 c3:Nat) (b3:List UInt8) (back:Bool) (w:World)
  (hb1:b1.length=n1) (hc1:n1≤c1) (hl1:zr w a1 (b1.map B)) (hb2:b2.length=n2) (hc2:n2≤c2) (hl2:zr w a2 (b2.map B)) (hb3:b3.length=n3) (hc3:n3≤c3) (hl3:zr w a3 (b3.map B)) (hg:Globals w) (hbg:qD w) :
  Calls Tryz.prog 4 #[.agg (yf alg a1 n1 c1 a2 n2 c2 a3 n3 c3 back).toArray] w fun e w'=>e=.returned (.bool true)∧Below w.heap.size w w':=by
 have HS:=znq (St.start w)
 by_cases hs:n1≤200∧n2≤100∧n3≤300
 rotate_left
 ·have ds:=decide_eq_false hs
  clear hs
  go_enter Tryz.func4,Tryz.ntmps4
  go_wp2_with (refine zh 24 _ (yf alg a1 n1 c1 a2 n2 c2 a3 n3 c3 back) _ rfl rfl rfl rfl ?_)
  intro w1 hb hbel;have HS:=znq (HS.znr.push hb hbel);clear hb hbel
  go_wp2_with (refine (HS.znr.get 0 rfl).wload rfl rfl rfl zx rfl ?_)
  refine (xc alg a1 n1 c1 a2 n2 c2 a3 n3 c3 back _).mono ?_
  rintro e w2 ⟨rfl,hbel⟩
  rw [ds]
  have HS:=znq (HS.znr.later hbel)
  clear hbel
  go_wp2
  go_ret
  exact ⟨rfl,HS.znr.bel⟩
 by_cases hw:wrongG alg n1=0
 rotate_left
 ·have ds:=decide_eq_true hs
  have hwr:((wrongG alg n1:Int) != 0)=true:=by simp;omega
  have hwr2:wrongG alg n1≠0:=hw
  clear hs hw
  go_enter Tryz.func4,Tryz.ntmps4
  go_wp2_with (refine zh 24 _ (yf alg a1 n1 c1 a2 n2 c2 a3 n3 c3 back) _ rfl rfl rfl rfl ?_)
  intro w1 hb hbel;have HS:=znq (HS.znr.push hb hbel);clear hb hbel
  go_wp2_with (refine (HS.znr.get 0 rfl).wload rfl rfl rfl zx rfl ?_)
  refine (xc alg a1 n1 c1 a2 n2 c2 a3 n3 c3 back _).mono ?_
  rintro e w2 ⟨rfl,hbel⟩
  rw [ds]
  have HS:=znq (HS.znr.later hbel)
  clear hbel
  have hx0:=(HS.znr.get 0 rfl).cell 0 _ rfl
  have hx1:=(HS.znr.get 0 rfl).cell 1 _ rfl
  go_wp2_with fail
  refine (qb alg a1 n1 c1 _).mono ?_
  rintro e w2 ⟨rfl,rfl⟩
  generalize wrongG alg n1=wr at *
  clear hx0 hx1
  go_wp2
  go_ret
  exact ⟨rfl,HS.znr.bel⟩
 by_cases hle:(jy alg b1).least≤n3
 ·skip
  have ds:=decide_eq_true hs
  obtain ⟨hs1,hs2,hs3⟩:=hs
  obtain ⟨k,hk⟩:∃ k,k=jy alg b1:=⟨_,rfl⟩
  have HK:=znq (show jy alg b1=k∧k.Fit∧(k.least:Int)=wg alg from ⟨hk.symm,by rw [hk];exact we _ _,by rw [hk,jz (by rw [hb1];exact hw)]⟩)
  have HW:=znq hw
  have HB1:=znq hb1
  have HL1:=znq hl1
  have HB2:=znq hb2
  have HL2:=znq hl2
  have HB3:=znq hb3
  have HL3:=znq hl3
  have HG:=znq hg
  have HBG:=znq hbg
  rw [← hk] at hle
  have hdl:decide (n3 < k.least)=false:=by simp;omega
  have HLE:=znq hle
  clear hw hb1 hl1 hb2 hl2 hb3 hl3 hg hbg hk hle
  go_enter Tryz.func4,Tryz.ntmps4
  go_wp2_with (refine zh 24 _ (yf alg a1 n1 c1 a2 n2 c2 a3 n3 c3 back) _ rfl rfl rfl rfl ?_)
  intro w1 hb hbel;have HS:=znq (HS.znr.push hb hbel);clear hb hbel
  go_wp2_with (refine (HS.znr.get 0 rfl).wload rfl rfl rfl zx rfl ?_)
  refine (xc alg a1 n1 c1 a2 n2 c2 a3 n3 c3 back _).mono ?_
  rintro e w2 ⟨rfl,hbel⟩
  rw [ds]
  have HS:=znq (HS.znr.later hbel)
  clear hbel
  have hx0:=(HS.znr.get 0 rfl).cell 0 _ rfl
  have hx1:=(HS.znr.get 0 rfl).cell 1 _ rfl
  go_wp2_with fail
  refine (qb alg a1 n1 c1 _).mono ?_
  rintro e w2 ⟨rfl,rfl⟩
  rw [HW.znr]
  clear hx0 hx1
  go_wp2_with (refine (HS.znr.get 0 rfl).wload rfl rfl rfl zx rfl ?_)
  refine (xU alg a1 n1 c1 b1 a2 n2 c2 a3 n3 c3 back _ HB1.znr HW.znr hc1 (HL1.znr.below HS.znr.bel) (HG.znr.below HS.znr.bel) (HBG.znr.below HS.znr.bel)).mono ?_
  rintro e w3 ⟨cp,rfl,hst,hbel⟩
  have hci:qu _ _ _:=hst.self
  clear hst
  rw [HK.znr.1] at hci
  have HC:=znq hci
  have HS:=znq (HS.znr.later hbel)
  clear hci hbel
  have hx3:=(HS.znr.get 0 rfl).cell 3 _ rfl
  have hx4:=(HS.znr.get 0 rfl).cell 4 _ rfl
  go_wp2_with (refine (HS.znr.get 0 rfl).wload rfl rfl rfl zx rfl ?_)
  refine (q8 alg a1 n1 c1 a2 n2 c2 a3 n3 c3 back cp k b2 a3 n3 c3 b3 back _ HC.znr HB2.znr (by omega) hc2 (HL2.znr.below HS.znr.bel) HB3.znr HLE.znr (by omega) hc3 (HL3.znr.below HS.znr.bel)).mono ?_
  rintro e w4 ⟨v4,rfl,hown,hbel⟩
  obtain ⟨a4,c4,rfl,hc4,_,hl⟩:=zw hown
  have HL4:=znq hl
  have HC:=znq (HC.znr.later hbel)
  have HS:=znq (HS.znr.later hbel)
  clear hown hl hbel hx4
  clear hx3
  have hx3:=fun (x:zG w4.drew)=>((HS.znr.get 0 rfl).drew.below x.later (HS.znr.get 0 rfl).drew.lt).cell 3 _ rfl
  go_wp2_with fail
  refine zn [0,1,2,3,4,5] (by kernel_rfl) (by kernel_rfl) ?_
  rintro w5 rfl
  refine mqR ?_
  clear hx3
  have HS:=znq HS.znr.drew
  have HC:=znq (HC.znr.later (Below.refl _ _).drew)
  refine zi rfl rfl (by rfl) (fun K hK=>?_)
  go_simp
  refine (vH cp k _ HC.znr).mono ?_
  rintro e w5 ⟨rfl,rfl⟩
  go_simp
  refine hK _ _ (zW.refl _) ?_
  clear hK K
  generalize k.least=ll at *
  refine mqR ?_
  refine zo ?_
  have hx3:=(HS.znr.get 0 rfl).cell 3 _ rfl
  go_wp2_with fail
  refine (qc _ (HG.znr.below HS.znr.bel) (HBG.znr.below HS.znr.bel)).mono ?_
  rintro e w9 ⟨rfl,hbel⟩
  have HS:=znq (HS.znr.later hbel)
  clear hbel
  clear hx3
  go_wp2
  go_ret
  exact ⟨rfl,HS.znr.bel⟩
 ·skip
  have ds:=decide_eq_true hs
  obtain ⟨hs1,hs2,hs3⟩:=hs
  obtain ⟨k,hk⟩:∃ k,k=jy alg b1:=⟨_,rfl⟩
  have HK:=znq (show jy alg b1=k∧k.Fit∧(k.least:Int)=wg alg from ⟨hk.symm,by rw [hk];exact we _ _,by rw [hk,jz (by rw [hb1];exact hw)]⟩)
  have HW:=znq hw
  have HB1:=znq hb1
  have HL1:=znq hl1
  have HB2:=znq hb2
  have HL2:=znq hl2
  have HB3:=znq hb3
  have HL3:=znq hl3
  have HG:=znq hg
  have HBG:=znq hbg
  rw [← hk] at hle
  have hlt:n3 < k.least:=by omega
  have hdl:decide (n3 < k.least)=true:=by simp;omega
  have HLE:=znq hlt
  clear hw hb1 hl1 hb2 hl2 hb3 hl3 hg hbg hk hle hlt
  go_enter Tryz.func4,Tryz.ntmps4
  go_wp2_with (refine zh 24 _ (yf alg a1 n1 c1 a2 n2 c2 a3 n3 c3 back) _ rfl rfl rfl rfl ?_)
  intro w1 hb hbel;have HS:=znq (HS.znr.push hb hbel);clear hb hbel
  go_wp2_with (refine (HS.znr.get 0 rfl).wload rfl rfl rfl zx rfl ?_)
  refine (xc alg a1 n1 c1 a2 n2 c2 a3 n3 c3 back _).mono ?_
  rintro e w2 ⟨rfl,hbel⟩
  rw [ds]
  have HS:=znq (HS.znr.later hbel)
  clear hbel
  have hx0:=(HS.znr.get 0 rfl).cell 0 _ rfl
  have hx1:=(HS.znr.get 0 rfl).cell 1 _ rfl
  go_wp2_with fail
  refine (qb alg a1 n1 c1 _).mono ?_
  rintro e w2 ⟨rfl,rfl⟩
  rw [HW.znr]
  clear hx0 hx1
  go_wp2_with (refine (HS.znr.get 0 rfl).wload rfl rfl rfl zx rfl ?_)
  refine (xU alg a1 n1 c1 b1 a2 n2 c2 a3 n3 c3 back _ HB1.znr HW.znr hc1 (HL1.znr.below HS.znr.bel) (HG.znr.below HS.znr.bel) (HBG.znr.below HS.znr.bel)).mono ?_
  rintro e w3 ⟨cp,rfl,hst,hbel⟩
  have hci:qu _ _ _:=hst.self
  clear hst
  rw [HK.znr.1] at hci
  have HC:=znq hci
  have HS:=znq (HS.znr.later hbel)
  clear hci hbel
  have hx3:=(HS.znr.get 0 rfl).cell 3 _ rfl
  have hx4:=(HS.znr.get 0 rfl).cell 4 _ rfl
  go_wp2_with (refine (HS.znr.get 0 rfl).wload rfl rfl rfl zx rfl ?_)
  refine (QA alg a1 n1 c1 a2 n2 c2 a3 n3 c3 back cp k a3 n3 c3 back _ HC.znr HLE.znr).mono ?_
  rintro e w4 ⟨rfl,hbel⟩
  have HC:=znq (HC.znr.later hbel)
  have HS:=znq (HS.znr.later hbel)
  clear hbel hx3 hx4
  have hx3:=fun (x:zG w4.drew)=>((HS.znr.get 0 rfl).drew.below x.later (HS.znr.get 0 rfl).drew.lt).cell 3 _ rfl
  go_wp2_with fail
  refine zn [0,1,2,3,4,5] (by kernel_rfl) (by kernel_rfl) ?_
  rintro w5 rfl
  refine mqR ?_
  clear hx3
  have HS:=znq HS.znr.drew
  have HC:=znq (HC.znr.later (Below.refl _ _).drew)
  refine zi rfl rfl (by rfl) (fun K hK=>?_)
  go_simp
  refine (vH cp k _ HC.znr).mono ?_
  rintro e w5 ⟨rfl,rfl⟩
  go_simp
  refine hK _ _ (zW.refl _) ?_
  clear hK K
  generalize k.least=ll at *
  refine mqR ?_
  refine zo ?_
  go_wp2_with fail
  refine (qc _ (HG.znr.below HS.znr.bel) (HBG.znr.below HS.znr.bel)).mono ?_
  rintro e w9 ⟨rfl,hbel⟩
  have HS:=znq (HS.znr.later hbel)
  clear hbel
  skip
  go_wp2
  go_ret
  exact ⟨rfl,HS.znr.bel⟩
end Go.Proofs.YtbpghohkhngdfaaGreatDoor
namespace Go.Proofs.YtbpghohkhngdfaaGreatDoor
open Go.RowKit Go.Mem Go.Ops Go.Cells Go.Oct Go.Gf Go.Trn Go.Aes Go.Ring Go.Ezk Go.Ezh Go.Ezt Go.Ezc Go.Aez Go.Blake Go.CutP Go.Fl Go.Adi Go.Hct Go.Wid
attribute [local irreducible] zE zN zO zM yu
theorem apart_law (alg:Int) (a1:Option Addr) (n1 c1:Nat) (b1:List UInt8) (a2:Option Addr) (n2 c2:Nat) (b2:List UInt8) (a3:Option Addr) (n3 c3:Nat) (b3:List UInt8) (back:Bool) (a4:Option Addr) (n4 c4:Nat) (b4:List UInt8) (w:World)
  (hb1:b1.length=n1) (hc1:n1≤c1) (hl1:zr w a1 (b1.map B)) (hb2:b2.length=n2) (hc2:n2≤c2) (hl2:zr w a2 (b2.map B)) (hb3:b3.length=n3) (hc3:n3≤c3) (hl3:zr w a3 (b3.map B)) (hb4:b4.length=n4) (hc4:n4≤c4) (hl4:zr w a4 (b4.map B)) (hg:Globals w) (hbg:qD w) :
  Calls Tryz.prog 7 #[.agg (yf alg a1 n1 c1 a2 n2 c2 a3 n3 c3 back).toArray,.slice a4 n4 c4] w fun e w'=>e=.returned (.bool true)∧Below w.heap.size w w':=by
 have HS:=znq (St.start w)
 by_cases hm:Y2 alg n1 n2 n3=true
 rotate_left
 ·have HM:=znq (show Y2 alg n1 n2 n3=false∧True from ⟨by simpa using hm,trivial⟩)
  clear hm
  go_enter Tryz.func7,Tryz.ntmps7
  go_wp2_with (refine zh 24 _ (yf alg a1 n1 c1 a2 n2 c2 a3 n3 c3 back) _ rfl rfl rfl rfl ?_)
  intro w1 hb hbel;have HS:=znq (HS.znr.push hb hbel);clear hb hbel
  go_wp2_with (refine (HS.znr.get 0 rfl).wload rfl rfl rfl zx rfl ?_)
  refine (wh alg a1 n1 c1 a2 n2 c2 a3 n3 c3 back _).mono ?_
  rintro e w2 ⟨rfl,hbel⟩
  rw [HM.znr.1]
  have HS:=znq (HS.znr.later hbel)
  clear hbel
  go_wp2
  go_ret
  exact ⟨rfl,HS.znr.bel⟩
 have hmm:=of_decide_eq_true hm
 obtain ⟨⟨hs1,hs2,hs3⟩,hw,hle⟩:=hmm
 have HM:=znq (show Y2 alg n1 n2 n3=true∧True from ⟨hm,trivial⟩)
 by_cases h4:n4=n3
 rotate_left
 ·have hd:((n4:Int) != (n3:Int))=true:=by simp;omega
  have hd2:(n4 != n3)=true:=by simpa using h4
  clear hm hw
  go_enter Tryz.func7,Tryz.ntmps7
  go_wp2_with (refine zh 24 _ (yf alg a1 n1 c1 a2 n2 c2 a3 n3 c3 back) _ rfl rfl rfl rfl ?_)
  intro w1 hb hbel;have HS:=znq (HS.znr.push hb hbel);clear hb hbel
  go_wp2_with (refine (HS.znr.get 0 rfl).wload rfl rfl rfl zx rfl ?_)
  refine (wh alg a1 n1 c1 a2 n2 c2 a3 n3 c3 back _).mono ?_
  rintro e w2 ⟨rfl,hbel⟩
  rw [HM.znr.1]
  have HS:=znq (HS.znr.later hbel)
  clear hbel
  have hx3:=(HS.znr.get 0 rfl).cell 3 _ rfl
  go_wp2
  go_ret
  exact ⟨rfl,HS.znr.bel⟩
 ·subst h4
  obtain ⟨k,hk⟩:∃ k,k=jy alg b1:=⟨_,rfl⟩
  have HK:=znq (show jy alg b1=k∧k.Fit∧k.least≤n4 from ⟨hk.symm,by rw [hk];exact we _ _,by rw [hk,jz (by rw [hb1];exact hw)];exact hle⟩)
  have HW:=znq hw
  have HB4:=znq hb4
  have HL4:=znq hl4
  have HB1:=znq hb1
  have HL1:=znq hl1
  have HB2:=znq hb2
  have HL2:=znq hl2
  have HB3:=znq hb3
  have HL3:=znq hl3
  have HG:=znq hg
  have HBG:=znq hbg
  obtain ⟨y,hy⟩:∃ y,y=xM k b2 b3 back:=⟨_,rfl⟩
  obtain ⟨z,hz⟩:∃ y,y=xM k b2 b4 back:=⟨_,rfl⟩
  have HY:=znq (show xM k b2 b3 back=y∧y.length=n4 from ⟨hy.symm,by rw [hy,q7 _ _ (by rw [hb3];exact HK.znr.2.2)];exact hb3⟩)
  have HZ:=znq (show xM k b2 b4 back=z∧z.length=n4 from ⟨hz.symm,by rw [hz,q7 _ _ (by rw [hb4];exact HK.znr.2.2)];exact hb4⟩)
  have HIN:=znq (show (y=z)↔(b3=b4) by rw [hy,hz];exact zhq HK.znr.2.1 _ _ (by rw [hb3];exact HK.znr.2.2) (by rw [hb4];exact HK.znr.2.2))
  clear hm hw hb1 hl1 hb2 hl2 hb3 hl3 hb4 hl4 hg hbg hk hy hz hle
  go_enter Tryz.func7,Tryz.ntmps7
  go_wp2_with (refine zh 24 _ (yf alg a1 n1 c1 a2 n2 c2 a3 n4 c3 back) _ rfl rfl rfl rfl ?_)
  intro w1 hb hbel;have HS:=znq (HS.znr.push hb hbel);clear hb hbel
  go_wp2_with (refine (HS.znr.get 0 rfl).wload rfl rfl rfl zx rfl ?_)
  refine (wh alg a1 n1 c1 a2 n2 c2 a3 n4 c3 back _).mono ?_
  rintro e w2 ⟨rfl,hbel⟩
  rw [HM.znr.1]
  have HS:=znq (HS.znr.later hbel)
  clear hbel
  have hx3:=(HS.znr.get 0 rfl).cell 3 _ rfl
  go_wp2_with (refine (HS.znr.get 0 rfl).wload rfl rfl rfl zx rfl ?_)
  refine (xU alg a1 n1 c1 b1 a2 n2 c2 a3 n4 c3 back _ HB1.znr HW.znr hc1 (HL1.znr.below HS.znr.bel) (HG.znr.below HS.znr.bel) (HBG.znr.below HS.znr.bel)).mono ?_
  rintro e w3 ⟨cp,rfl,hst,hbel⟩
  have hci:qu _ _ _:=hst.self
  clear hst
  rw [HK.znr.1] at hci
  have HC:=znq hci
  have HS:=znq (HS.znr.later hbel)
  clear hci hbel
  clear hx3
  have hx3:=(HS.znr.get 0 rfl).cell 3 _ rfl
  have hx4:=(HS.znr.get 0 rfl).cell 4 _ rfl
  go_wp2_with (refine (HS.znr.get 0 rfl).wload rfl rfl rfl zx rfl ?_)
  refine (q8 alg a1 n1 c1 a2 n2 c2 a3 n4 c3 back cp k b2 a3 n4 c3 b3 back _ HC.znr HB2.znr (by omega) hc2 (HL2.znr.below HS.znr.bel) HB3.znr HK.znr.2.2 (by omega) hc3 (HL3.znr.below HS.znr.bel)).mono ?_
  rintro e w5 ⟨v5,rfl,hown,hbel⟩
  rw [HY.znr.1] at hown
  obtain ⟨a5,c5,rfl,hc5,_,hl⟩:=zw hown
  have HL5:=znq hl
  have HC:=znq (HC.znr.later hbel)
  have HS:=znq (HS.znr.later hbel)
  clear hown hl hbel hx4
  clear hx3
  have hx4:=(HS.znr.get 0 rfl).cell 4 _ rfl
  go_wp2_with (refine (HS.znr.get 0 rfl).wload rfl rfl rfl zx rfl ?_)
  refine (q8 alg a1 n1 c1 a2 n2 c2 a3 n4 c3 back cp k b2 a4 n4 c4 b4 back _ HC.znr HB2.znr (by omega) hc2 (HL2.znr.below HS.znr.bel) HB4.znr HK.znr.2.2 (by omega) hc4 (HL4.znr.below HS.znr.bel)).mono ?_
  rintro e w6 ⟨v6,rfl,hown,hbel⟩
  have HL5:=znq (HL5.znr.below hbel)
  rw [HZ.znr.1] at hown
  obtain ⟨a6,c6,rfl,hc6,_,hl⟩:=zw hown
  have HL6:=znq hl
  have HC:=znq (HC.znr.later hbel)
  have HS:=znq (HS.znr.later hbel)
  clear hown hl hbel hx4
  have hx3:=(HS.znr.get 0 rfl).cell 3 _ rfl
  have F1:=yL w6 a5 n4 c5 y HY.znr.2 HL5.znr
  have F2:=yL w6 a6 n4 c6 z HZ.znr.2 HL6.znr
  have F3:=yL w6 a3 n4 c3 b3 HB3.znr (HL3.znr.below HS.znr.bel)
  have F4:=yL w6 a4 n4 c4 b4 HB4.znr (HL4.znr.below HS.znr.bel)
  by_cases he:b3=b4
  ·have hyz:y=z:=HIN.znr.2 he
   subst hyz
   subst he
   generalize str y=s1 at *
   generalize str b3=s2 at *
   go_wp2_with fail
   refine (qc _ (HG.znr.below HS.znr.bel) (HBG.znr.below HS.znr.bel)).mono ?_
   rintro e w9 ⟨rfl,hbel⟩
   have HS:=znq (HS.znr.later hbel)
   clear hbel
   clear F1 F2 F3 F4 hx3
   go_wp2
   go_ret
   exact ⟨rfl,HS.znr.bel⟩
  ·have hyz:¬ y=z:=fun h=>he (HIN.znr.1 h)
   have g1:=zfn y z
   have g2:=zfn b3 b4
   rw [beq_eq_false_iff_ne.2 hyz] at g1
   rw [beq_eq_false_iff_ne.2 he] at g2
   clear he hyz
   generalize str y=s1 at *
   generalize str z=s2 at *
   generalize str b3=s3 at *
   generalize str b4=s4 at *
   go_wp2_with fail
   refine (qc _ (HG.znr.below HS.znr.bel) (HBG.znr.below HS.znr.bel)).mono ?_
   rintro e w9 ⟨rfl,hbel⟩
   have HS:=znq (HS.znr.later hbel)
   clear hbel
   clear F1 F2 F3 F4 hx3 g1 g2
   go_wp2
   go_ret
   exact ⟨rfl,HS.znr.bel⟩
end Go.Proofs.YtbpghohkhngdfaaGreatDoor
namespace Go.Cells
open Go.RowKit Go.Mem
theorem zlp {w:World} {base:Nat} {e:TypeId} {ao:Option Addr} {n c:Nat} {xs:List Value} (h:w.ownsRow base e 1 (.slice ao n c) n xs) (hn:0 < n) :
  ∃ g cur,ao=some ⟨g,0,none⟩∧base≤g∧Blk w g cur e∧cur.take n=xs∧n≤cur.length:=by
 rcases h.2 with ⟨hv,h0⟩ | ⟨g',c',cur,hv,hb,hg,h1,h2,h3,ht⟩
 ·cases hv;omega
 ·cases hv
  refine ⟨g',cur.toList,rfl,hb,?_,by simpa using ht,by simp;omega⟩
  unfold Blk
  rw [hg]
end Go.Cells
namespace Go.Proofs.YtbpghohkhngdfaaGreatDoor
open Go.RowKit Go.Mem Go.Ops Go.Cells Go.Oct Go.Gf Go.Trn Go.Aes Go.Ring Go.Ezk Go.Ezh Go.Ezt Go.Ezc Go.Aez Go.Blake Go.CutP Go.Fl Go.Adi Go.Hct Go.Wid
attribute [local irreducible] zE zN zO zM yu
theorem zim (cp:Nat) (k:ku) (ao:Option Addr) (tn tc:Nat) (t:List UInt8) (g off n cb:Nat) (cur:List Value) (m:List UInt8) (back:Bool) (w:World) (hk:qu w cp k) (ht:t.length=tn) (ht1:tn≤10000) (htc:tn≤tc) (hlt:zr w ao (t.map B))
  (hn:m.length=n) (h1:k.least≤n) (h31:n≤20000) (hcb:n≤cb) (hb:Blk w g cur 5) (hcur:(cur.drop off).take n=m.map B) (hcl:off+n≤cur.length) :
  Calls Tryz.prog 26 #[.pointer (some ⟨cp,0,none⟩),.slice ao tn tc,.slice (some ⟨g,off,none⟩) n cb,.bool back] w fun e w'=>e=.returned (.int .i64 0)∧Blk w' g (splice cur off ((xM k t m back).map B)) 5∧zI g w w':=by
 have HL:zr w (some ⟨g,off,none⟩) (m.map B):=by
  have h:=(hb.lies.drop off).take n
  rw [hcur] at h
  simpa [add_eq] using h
 have HT:=znq (XP cp k ao tn tc t (some ⟨g,off,none⟩) n cb m back w hk ht ht1 htc hlt hn h1 h31 hcb HL)
 have HB:=znq hb
 have HGL:=znq hb.lt
 have HCL:=znq hcl
 have HO:=znq (zI.refl g w)
 obtain ⟨y,hy⟩:∃ y,y=xM k t m back:=⟨_,rfl⟩
 have HY:=znq (show xM k t m back=y∧y.length=n from ⟨hy.symm,by rw [hy,q7 _ _ (by rw [hn];exact h1)];exact hn⟩)
 rw [← hy]
 rw [← hy] at HT
 clear hk ht hlt hn h1 HL hb hcur hy hcl
 go_enter Tryz.func26,Tryz.ntmps26
 go_wp2_with fail
 refine HT.znr.mono ?_
 rintro e w1 ⟨v1,rfl,hown,hbel⟩
 obtain ⟨a1,c1,rfl,hc1,_,hl1⟩:=zw hown
 have HL1:=znq hl1
 have HB:=znq (HB.znr.below hbel HGL.znr)
 have HO:=znq (HO.znr.trans (zI.of_below hbel))
 clear hown hl1 hbel
 go_wp2_with (refine HB.znr.wcopy off (y.map B) rfl rfl rfl rfl Tryz.underlying22 zl (fun _=>rfl) HL1.znr (by rw [List.length_map,HY.znr.2];exact (Nat.min_self n).symm) (by rw [List.length_map,HY.znr.2];have:=HCL.znr;omega) (zg _) ?_)
 intro w2 hb ho
 have HB:=znq hb
 have HO:=znq (HO.znr.trans (zI.of_only ho))
 clear hb ho
 go_wp2
 go_ret
 exact ⟨rfl,HB.znr,HO.znr⟩
theorem za6 (cp:Nat) (k:ku) (ao:Option Addr) (tn tc:Nat) (bo:Option Addr) (n cb:Nat) (back:Bool) (w:World) (hc:qu w cp k) (hn:n < k.least) :
  Calls Tryz.prog 26 #[.pointer (some ⟨cp,0,none⟩),.slice ao tn tc,.slice bo n cb,.bool back] w fun e w'=>e=.returned (.int .i64 7)∧w=w':=by
 have HC:=znq (Q2 cp k (.slice ao tn tc) bo n cb back w hc hn)
 clear hc hn
 go_enter Tryz.func26,Tryz.ntmps26
 go_wp2_with fail
 refine HC.znr.mono ?_
 rintro e w3 ⟨rfl,rfl⟩
 go_wp2
 go_ret
 exact ⟨rfl,rfl⟩
theorem zdz (ao:Option Addr) (tn tc:Nat) (bo:Option Addr) (n cb:Nat) (back:Bool) (w:World) :
  Calls Tryz.prog 26 #[.pointer none,.slice ao tn tc,.slice bo n cb,.bool back] w fun e w'=>e=.returned (.int .i64 2)∧w=w':=by
 have HC:=znq (Vo (.slice ao tn tc) (.slice bo n cb) back w)
 go_enter Tryz.func26,Tryz.ntmps26
 go_wp2_with fail
 refine HC.znr.mono ?_
 rintro e w3 ⟨rfl,rfl⟩
 go_wp2
 go_ret
 exact ⟨rfl,rfl⟩
theorem place_law (alg:Int) (a1:Option Addr) (n1 c1:Nat) (b1:List UInt8) (a2:Option Addr) (n2 c2:Nat) (b2:List UInt8) (a3:Option Addr) (n3 c3:Nat) (b3:List UInt8) (back:Bool) (w:World)
  (hb1:b1.length=n1) (hc1:n1≤c1) (hl1:zr w a1 (b1.map B)) (hb2:b2.length=n2) (hc2:n2≤c2) (hl2:zr w a2 (b2.map B)) (hb3:b3.length=n3) (hc3:n3≤c3) (hl3:zr w a3 (b3.map B)) (hg:Globals w) (hbg:qD w) :
  Calls Tryz.prog 8 #[.agg (yf alg a1 n1 c1 a2 n2 c2 a3 n3 c3 back).toArray] w fun e w'=>e=.returned (.bool true)∧Below w.heap.size w w':=by
 have HS:=znq (St.start w)
 obtain ⟨i0,hi,hz0,hz1,hz2⟩:=info_parts yq
 have HI:=znq (And.intro hi (And.intro hz0 (And.intro hz1 hz2)))
 clear hi hz0 hz1 hz2
 by_cases hs:n1≤200∧n2≤100∧n3≤300
 rotate_left
 ·have ds:=decide_eq_false hs
  clear hs
  go_enter Tryz.func8,Tryz.ntmps8
  go_wp2_with (refine zh 24 _ (yf alg a1 n1 c1 a2 n2 c2 a3 n3 c3 back) _ rfl rfl rfl rfl ?_)
  intro w1 hb hbel;have HS:=znq (HS.znr.push hb hbel);clear hb hbel
  go_wp2_with (refine (HS.znr.get 0 rfl).wload rfl rfl rfl zx rfl ?_)
  refine (xc alg a1 n1 c1 a2 n2 c2 a3 n3 c3 back _).mono ?_
  rintro e w2 ⟨rfl,hbel⟩
  rw [ds]
  have HS:=znq (HS.znr.later hbel)
  clear hbel
  go_wp2
  go_ret
  exact ⟨rfl,HS.znr.bel⟩
 by_cases hw:wrongG alg n1=0
 rotate_left
 ·have ds:=decide_eq_true hs
  have hwr:((wrongG alg n1:Int) != 0)=true:=by simp;omega
  have hwr2:wrongG alg n1≠0:=hw
  clear hs hw
  go_enter Tryz.func8,Tryz.ntmps8
  go_wp2_with (refine zh 24 _ (yf alg a1 n1 c1 a2 n2 c2 a3 n3 c3 back) _ rfl rfl rfl rfl ?_)
  intro w1 hb hbel;have HS:=znq (HS.znr.push hb hbel);clear hb hbel
  go_wp2_with (refine (HS.znr.get 0 rfl).wload rfl rfl rfl zx rfl ?_)
  refine (xc alg a1 n1 c1 a2 n2 c2 a3 n3 c3 back _).mono ?_
  rintro e w2 ⟨rfl,hbel⟩
  rw [ds]
  have HS:=znq (HS.znr.later hbel)
  clear hbel
  have hx0:=(HS.znr.get 0 rfl).cell 0 _ rfl
  have hx1:=(HS.znr.get 0 rfl).cell 1 _ rfl
  go_wp2_with fail
  refine (qb alg a1 n1 c1 _).mono ?_
  rintro e w2 ⟨rfl,rfl⟩
  generalize wrongG alg n1=wr at *
  clear hx0 hx1
  go_wp2
  go_ret
  exact ⟨rfl,HS.znr.bel⟩
 by_cases hle:(jy alg b1).least≤n3
 ·skip
  have ds:=decide_eq_true hs
  obtain ⟨hs1,hs2,hs3⟩:=hs
  obtain ⟨k,hk⟩:∃ k,k=jy alg b1:=⟨_,rfl⟩
  have HK:=znq (show jy alg b1=k∧k.Fit from ⟨hk.symm,by rw [hk];exact we _ _⟩)
  have HW:=znq hw
  have HB1:=znq hb1
  have HL1:=znq hl1
  have HB2:=znq hb2
  have HL2:=znq hl2
  have HB3:=znq hb3
  have HL3:=znq hl3
  have HG:=znq hg
  have HBG:=znq hbg
  rw [← hk] at hle
  have HLE:=znq hle
  have hn0:0 < n3:=by cases k <;> simp [ku.least] at hle <;> omega
  obtain ⟨y,hy⟩:∃ y,y=xM k b2 b3 back:=⟨_,rfl⟩
  have HY:=znq (show xM k b2 b3 back=y∧y.length=n3 from ⟨hy.symm,by rw [hy,q7 _ _ (by rw [hb3];exact hle)];exact hb3⟩)
  clear hw hb1 hl1 hb2 hl2 hb3 hl3 hg hbg hk hle hy
  go_enter Tryz.func8,Tryz.ntmps8
  go_wp2_with (refine zh 24 _ (yf alg a1 n1 c1 a2 n2 c2 a3 n3 c3 back) _ rfl rfl rfl rfl ?_)
  intro w1 hb hbel;have HS:=znq (HS.znr.push hb hbel);clear hb hbel
  go_wp2_with (refine (HS.znr.get 0 rfl).wload rfl rfl rfl zx rfl ?_)
  refine (xc alg a1 n1 c1 a2 n2 c2 a3 n3 c3 back _).mono ?_
  rintro e w2 ⟨rfl,hbel⟩
  rw [ds]
  have HS:=znq (HS.znr.later hbel)
  clear hbel
  have hx0:=(HS.znr.get 0 rfl).cell 0 _ rfl
  have hx1:=(HS.znr.get 0 rfl).cell 1 _ rfl
  go_wp2_with fail
  refine (qb alg a1 n1 c1 _).mono ?_
  rintro e w2 ⟨rfl,rfl⟩
  rw [HW.znr]
  clear hx0 hx1
  go_wp2_with (refine (HS.znr.get 0 rfl).wload rfl rfl rfl zx rfl ?_)
  refine (xU alg a1 n1 c1 b1 a2 n2 c2 a3 n3 c3 back _ HB1.znr HW.znr hc1 (HL1.znr.below HS.znr.bel) (HG.znr.below HS.znr.bel) (HBG.znr.below HS.znr.bel)).mono ?_
  rintro e w3 ⟨cp,rfl,hst,hbel⟩
  have hci:qu _ _ _:=hst.self
  clear hst
  rw [HK.znr.1] at hci
  have HC:=znq hci
  have HS:=znq (HS.znr.later hbel)
  clear hci hbel
  have hx3:=(HS.znr.get 0 rfl).cell 3 _ rfl
  have hx4:=(HS.znr.get 0 rfl).cell 4 _ rfl
  go_wp2_with (refine (HS.znr.get 0 rfl).wload rfl rfl rfl zx rfl ?_)
  refine (q8 alg a1 n1 c1 a2 n2 c2 a3 n3 c3 back cp k b2 a3 n3 c3 b3 back _ HC.znr HB2.znr (by omega) hc2 (HL2.znr.below HS.znr.bel) HB3.znr HLE.znr (by omega) hc3 (HL3.znr.below HS.znr.bel)).mono ?_
  rintro e w4 ⟨v4,rfl,hown,hbel⟩
  rw [HY.znr.1] at hown
  obtain ⟨a4,c4,rfl,hc4,_,hl⟩:=zw hown
  have HL4:=znq hl
  have HC:=znq (HC.znr.later hbel)
  have HS:=znq (HS.znr.later hbel)
  clear hown hl hbel hx4
  clear hx3
  have HS4:=znq (show w.heap.size≤w4.heap.size from HS.znr.size)
  have HTX:=znq (HS.znr.ne _ (List.mem_of_getElem? (i:=0) rfl))
  have hx3:=fun o=>((HS.znr.get 0 rfl).alloc o).cell 3 _ rfl
  go_wp2_with (at_builtin;refine yD rfl (.tmp 35) (.tmp 37) 22 rfl w4.heap.size 5 i0 (.int .u8 0) 1 Tryz.underlying22 HI.znr.1 HI.znr.2.1 HI.znr.2.2.1 HI.znr.2.2.2 rfl _ _ _ rfl (World.ownsRow_made (size:=1) (e:=5) (base:=w4.heap.size) w4 #[] 0 (Nat.le_refl _) (by simp [maxLen]) (by simp)) a3 n3 c3 (b3.map B) rfl (by rw [List.length_map];exact HB3.znr) ((HL3.znr.below HS.znr.bel).below (zD w4 _)) (zg _) (by unfold maxLen;omega) (by omega) (by simp) ?_)
  intro v5 w5 hown hg
  have hbel:=z8 (zD w4 (.cells #[] 5)) (World.ownsRow_made (size:=1) (e:=5) (base:=w4.heap.size) w4 #[] 0 (Nat.le_refl _) (by simp [maxLen]) (by simp)) hg (Nat.le_refl _) (by simp)
  have hown:w5.ownsRow w4.heap.size 5 1 v5 n3 (b3.map B):=by simpa using hown
  obtain ⟨a5,c5,rfl,hc5,_,hl5⟩:=zw hown
  have HO5:=znq hown
  have HL5:=znq hl5
  have HC:=znq (HC.znr.later hbel)
  have HS:=znq (HS.znr.later hbel)
  have HBE:=znq hbel
  have HL40:=HL4
  have HL4:=znq (HL4.znr.below hbel)
  clear hown hl5 hbel hg hx3
  have hx2:=(HS.znr.get 0 rfl).cell 2 _ rfl
  have hx4:=(HS.znr.get 0 rfl).cell 4 _ rfl
  go_wp2_with fail
  obtain ⟨g5,cur5,rfl,hg5,hblk5,hcur5,hcl5⟩:=zlp HO5.znr hn0
  have hbase:=HS.znr.size
  have HL4F:=znq (HL40.znr.far HBE.znr hg5)
  refine (zim cp k a2 n2 c2 b2 g5 0 n3 c5 cur5 b3 back _ HC.znr HB2.znr (by omega) hc2 (HL2.znr.below HS.znr.bel) HB3.znr HLE.znr (by omega) hc5 hblk5 (by simpa using hcur5) (by simpa using hcl5)).mono ?_
  rintro e w6 ⟨rfl,hblk,ho⟩
  rw [HY.znr.1] at hblk
  have HCL:=znq hcl5
  have HSZ:=znq (show w.heap.size≤w4.heap.size from HS4.znr)
  have HL6:=znq (show zr w6 (some ⟨g5,0,none⟩) (y.map B) from by
   have h1:=hblk.lies.take n3
   have h2:(splice cur5 0 (y.map B)).take n3=y.map B:=by
    unfold splice
    rw [List.take_zero,List.nil_append,List.take_append_of_le_length (by rw [List.length_map,HY.znr.2];exact Nat.le_refl _),List.take_of_length_le (by rw [List.length_map,HY.znr.2];exact Nat.le_refl _)]
   rw [h2] at h1
   exact h1)
  have HL4:=znq (HL4F.znr _ ho)
  have HS:=znq (HS.znr.offB ho (by have:=HSZ.znr;omega) (by have:=HTX.znr;simp;omega))
  clear hblk ho hblk5 hcur5 hcl5 hx2 hx4
  have hx3:=(HS.znr.get 0 rfl).cell 3 _ rfl
  have F1:=yL w6 a4 n3 c4 y HY.znr.2 HL4.znr
  have F2:=yL w6 (some ⟨g5,0,none⟩) n3 c5 y HY.znr.2 HL6.znr
  generalize str y=s1 at *
  go_wp2_with fail
  refine (qc _ (HG.znr.below HS.znr.bel) (HBG.znr.below HS.znr.bel)).mono ?_
  rintro e w9 ⟨rfl,hbel⟩
  have HS:=znq (HS.znr.later hbel)
  clear hbel
  clear F1 F2 hx3
  go_wp2
  go_ret
  exact ⟨rfl,HS.znr.bel⟩
 ·skip
  have ds:=decide_eq_true hs
  obtain ⟨hs1,hs2,hs3⟩:=hs
  obtain ⟨k,hk⟩:∃ k,k=jy alg b1:=⟨_,rfl⟩
  have HK:=znq (show jy alg b1=k∧k.Fit from ⟨hk.symm,by rw [hk];exact we _ _⟩)
  have HW:=znq hw
  have HB1:=znq hb1
  have HL1:=znq hl1
  have HB2:=znq hb2
  have HL2:=znq hl2
  have HB3:=znq hb3
  have HL3:=znq hl3
  have HG:=znq hg
  have HBG:=znq hbg
  rw [← hk] at hle
  have hlt:n3 < k.least:=by omega
  have HLE:=znq hlt
  clear hw hb1 hl1 hb2 hl2 hb3 hl3 hg hbg hk hle hlt
  go_enter Tryz.func8,Tryz.ntmps8
  go_wp2_with (refine zh 24 _ (yf alg a1 n1 c1 a2 n2 c2 a3 n3 c3 back) _ rfl rfl rfl rfl ?_)
  intro w1 hb hbel;have HS:=znq (HS.znr.push hb hbel);clear hb hbel
  go_wp2_with (refine (HS.znr.get 0 rfl).wload rfl rfl rfl zx rfl ?_)
  refine (xc alg a1 n1 c1 a2 n2 c2 a3 n3 c3 back _).mono ?_
  rintro e w2 ⟨rfl,hbel⟩
  rw [ds]
  have HS:=znq (HS.znr.later hbel)
  clear hbel
  have hx0:=(HS.znr.get 0 rfl).cell 0 _ rfl
  have hx1:=(HS.znr.get 0 rfl).cell 1 _ rfl
  go_wp2_with fail
  refine (qb alg a1 n1 c1 _).mono ?_
  rintro e w2 ⟨rfl,rfl⟩
  rw [HW.znr]
  clear hx0 hx1
  go_wp2_with (refine (HS.znr.get 0 rfl).wload rfl rfl rfl zx rfl ?_)
  refine (xU alg a1 n1 c1 b1 a2 n2 c2 a3 n3 c3 back _ HB1.znr HW.znr hc1 (HL1.znr.below HS.znr.bel) (HG.znr.below HS.znr.bel) (HBG.znr.below HS.znr.bel)).mono ?_
  rintro e w3 ⟨cp,rfl,hst,hbel⟩
  have hci:qu _ _ _:=hst.self
  clear hst
  rw [HK.znr.1] at hci
  have HC:=znq hci
  have HS:=znq (HS.znr.later hbel)
  clear hci hbel
  have hx3:=(HS.znr.get 0 rfl).cell 3 _ rfl
  have hx4:=(HS.znr.get 0 rfl).cell 4 _ rfl
  go_wp2_with (refine (HS.znr.get 0 rfl).wload rfl rfl rfl zx rfl ?_)
  refine (QA alg a1 n1 c1 a2 n2 c2 a3 n3 c3 back cp k a3 n3 c3 back _ HC.znr HLE.znr).mono ?_
  rintro e w4 ⟨rfl,hbel⟩
  have HC:=znq (HC.znr.later hbel)
  have HS:=znq (HS.znr.later hbel)
  clear hbel hx3 hx4
  have hx3:=fun o=>((HS.znr.get 0 rfl).alloc o).cell 3 _ rfl
  go_wp2_with (at_builtin;refine yD rfl (.tmp 35) (.tmp 37) 22 rfl w4.heap.size 5 i0 (.int .u8 0) 1 Tryz.underlying22 HI.znr.1 HI.znr.2.1 HI.znr.2.2.1 HI.znr.2.2.2 rfl _ _ _ rfl (World.ownsRow_made (size:=1) (e:=5) (base:=w4.heap.size) w4 #[] 0 (Nat.le_refl _) (by simp [maxLen]) (by simp)) a3 n3 c3 (b3.map B) rfl (by rw [List.length_map];exact HB3.znr) ((HL3.znr.below HS.znr.bel).below (zD w4 _)) (zg _) (by unfold maxLen;omega) (by omega) (by simp) ?_)
  intro v5 w5 hown hg
  have hbel:=z8 (zD w4 (.cells #[] 5)) (World.ownsRow_made (size:=1) (e:=5) (base:=w4.heap.size) w4 #[] 0 (Nat.le_refl _) (by simp [maxLen]) (by simp)) hg (Nat.le_refl _) (by simp)
  have hown:w5.ownsRow w4.heap.size 5 1 v5 n3 (b3.map B):=by simpa using hown
  obtain ⟨a5,c5,rfl,hc5,_,hl5⟩:=zw hown
  have HO5:=znq hown
  have HL5:=znq hl5
  have HC:=znq (HC.znr.later hbel)
  have HS:=znq (HS.znr.later hbel)
  skip
  clear hown hl5 hbel hg hx3
  have hx2:=(HS.znr.get 0 rfl).cell 2 _ rfl
  have hx4:=(HS.znr.get 0 rfl).cell 4 _ rfl
  go_wp2_with fail
  refine (za6 cp k a2 n2 c2 a5 n3 c5 back _ HC.znr HLE.znr).mono ?_
  rintro e w6 ⟨rfl,rfl⟩
  clear hx2 hx4
  have hx3:=(HS.znr.get 0 rfl).cell 3 _ rfl
  have F1:=yL w5 a5 n3 c5 b3 HB3.znr HL5.znr
  have F2:=yL w5 a3 n3 c3 b3 HB3.znr (HL3.znr.below HS.znr.bel)
  generalize str b3=s1 at *
  go_wp2_with fail
  refine (qc _ (HG.znr.below HS.znr.bel) (HBG.znr.below HS.znr.bel)).mono ?_
  rintro e w9 ⟨rfl,hbel⟩
  have HS:=znq (HS.znr.later hbel)
  clear hbel
  clear F1 F2 hx3
  go_wp2
  go_ret
  exact ⟨rfl,HS.znr.bel⟩
end Go.Proofs.YtbpghohkhngdfaaGreatDoor
namespace Go.Proofs.YtbpghohkhngdfaaGreatDoor
open Go.RowKit Go.Mem Go.Ops Go.Cells Go.Oct Go.Gf Go.Trn Go.Aes Go.Ring Go.Ezk Go.Ezh Go.Ezt Go.Ezc Go.Aez Go.Blake Go.CutP Go.Fl Go.Adi Go.Hct Go.Wid
attribute [local irreducible] zE zN zO zM yu
theorem WI (w:World):Calls Tryz.prog 48 #[.pointer none] w fun e w'=>e=.returned (.tuple #[.agg #[.pointer none],.int .i64 2])∧Below w.heap.size w w':=by
 have HS:=znq (St.start w)
 go_enter Tryz.func48,Tryz.ntmps48
 go_wp2_with (refine ze 87 [.pointer none] _ rfl rfl Yx rfl ?_)
 intro w1 hb hbel;have HS:=znq (HS.znr.push hb hbel);have hlt1:=hb.lt;clear hb hbel
 go_wp2_with (refine (HS.znr.get 0 rfl).wstore rfl rfl rfl (cs:=[.pointer none]) rfl jv rfl rfl (by simp [Value.oneCell']) ?_)
 intro w3 hb3 ho3
 have HB:=znq (zk HS.znr.bel ho3 (by omega))
 clear ho3
 go_wp2
 refine hb3.result2 (v:=.int .i64 2) rfl rfl rfl rfl jv rfl ⟨rfl,HB.znr⟩
theorem zin (bo:Option Addr) (n cb:Nat) (back:Bool) (w:World):Calls Tryz.prog 24 #[.pointer none,.slice none 0 0,.slice bo n cb,.bool back] w fun e w'=>e=.returned (.tuple #[.slice none 0 0,.int .i64 2])∧Below w.heap.size w w':=by
 have HS:=znq (St.start w)
 go_enter Tryz.func24,Tryz.ntmps24
 go_wp2_with fail
 refine (WI _).mono ?_
 rintro e w1 ⟨rfl,hbel⟩
 have HS:=znq (HS.znr.later hbel)
 have hz1:=HS.znr.size
 clear hbel
 go_wp2_with (refine ze 87 [.pointer none] _ rfl rfl Yx rfl ?_)
 intro w2 hb hbel;have HS:=znq (HS.znr.push hb hbel);have hlt2:=hb.lt;clear hb hbel
 go_wp2_with (refine (HS.znr.get 0 rfl).wstore rfl rfl rfl (cs:=[.pointer none]) rfl jv rfl rfl (by simp [Value.oneCell']) ?_)
 intro w3 hb3 ho3
 have HB:=znq (zk HS.znr.bel ho3 (by omega))
 clear hb3 ho3
 go_wp2
 go_ret2
 exact ⟨rfl,HB.znr⟩
theorem zio (w:World):Calls Tryz.prog 25 #[.pointer none,.slice none 0 0,.int .i64 5] w fun e w'=>e=.returned (.tuple #[.slice none 0 0,.int .i64 2])∧Below w.heap.size w w':=by
 have HS:=znq (St.start w)
 go_enter Tryz.func25,Tryz.ntmps25
 go_wp2_with fail
 refine (WI _).mono ?_
 rintro e w1 ⟨rfl,hbel⟩
 have HS:=znq (HS.znr.later hbel)
 have hz1:=HS.znr.size
 clear hbel
 go_wp2_with (refine ze 87 [.pointer none] _ rfl rfl Yx rfl ?_)
 intro w2 hb hbel;have HS:=znq (HS.znr.push hb hbel);have hlt2:=hb.lt;clear hb hbel
 go_wp2_with (refine (HS.znr.get 0 rfl).wstore rfl rfl rfl (cs:=[.pointer none]) rfl jv rfl rfl (by simp [Value.oneCell']) ?_)
 intro w3 hb3 ho3
 have HB:=znq (zk HS.znr.bel ho3 (by omega))
 clear hb3 ho3
 go_wp2
 go_ret2
 exact ⟨rfl,HB.znr⟩
theorem ziq (w:World):Calls Tryz.prog 19 #[.pointer none] w fun e w'=>e=.returned (.int .i64 0)∧w=w':=by
 go_enter Tryz.func19,Tryz.ntmps19
 go_wp2
 go_ret
 exact ⟨rfl,rfl⟩
theorem zd0 (w:World):Calls Tryz.prog 20 #[.pointer none] w fun e w'=>e=.returned (.int .i64 0)∧w=w':=by
 go_enter Tryz.func20,Tryz.ntmps20
 go_wp2
 go_ret
 exact ⟨rfl,rfl⟩
theorem zd1 (alg:Int) (a1:Option Addr) (n1 c1:Nat) (ao:Option Addr) (tn tc:Nat) (a3:Option Addr) (n3 c3:Nat) (bk:Bool) (bo:Option Addr) (n cb:Nat) (back:Bool) (w:World) :
  Calls Tryz.prog 23 #[.agg (yf alg a1 n1 c1 ao tn tc a3 n3 c3 bk).toArray,.pointer none,.slice bo n cb,.bool back] w fun e w'=>e=.returned (.tuple #[.slice none 0 0,.int .i64 2])∧Below w.heap.size w w':=by
 cases back
 ·go_enter Tryz.func23,Tryz.ntmps23
  go_wp2_with (refine zh 24 _ (yf alg a1 n1 c1 ao tn tc a3 n3 c3 bk) _ rfl rfl rfl rfl ?_)
  intro w1 hb hbel
  have hc2:=hb.cell 2 _ rfl
  have HB:=znq hbel
  clear hb hbel
  go_wp2_with fail
  refine (zik ao tn tc bo n cb _).mono ?_
  rintro e w3 ⟨rfl,rfl⟩
  go_wp2
  go_ret2
  exact ⟨rfl,HB.znr⟩
 ·go_enter Tryz.func23,Tryz.ntmps23
  go_wp2_with (refine zh 24 _ (yf alg a1 n1 c1 ao tn tc a3 n3 c3 bk) _ rfl rfl rfl rfl ?_)
  intro w1 hb hbel
  have hc2:=hb.cell 2 _ rfl
  have HB:=znq hbel
  clear hb hbel
  go_wp2_with fail
  refine (zil ao tn tc bo n cb _).mono ?_
  rintro e w3 ⟨rfl,rfl⟩
  go_wp2
  go_ret2
  exact ⟨rfl,HB.znr⟩
theorem new_law (alg:Int) (a1:Option Addr) (n1 c1:Nat) (b1:List UInt8) (a2:Option Addr) (n2 c2:Nat) (b2:List UInt8) (a3:Option Addr) (n3 c3:Nat) (b3:List UInt8) (back:Bool) (w:World)
  (hb1:b1.length=n1) (hc1:n1≤c1) (hl1:zr w a1 (b1.map B)) (hb2:b2.length=n2) (hc2:n2≤c2) (hl2:zr w a2 (b2.map B)) (hb3:b3.length=n3) (hc3:n3≤c3) (hl3:zr w a3 (b3.map B)) (hg:Globals w) (hbg:qD w) :
  Calls Tryz.prog 3 #[.agg (yf alg a1 n1 c1 a2 n2 c2 a3 n3 c3 back).toArray] w fun e w'=>e=.returned (.bool true)∧Below w.heap.size w w':=by
 have HS:=znq (St.start w)
 by_cases hs:n1≤200∧n2≤100∧n3≤300
 rotate_left
 ·have ds:=decide_eq_false hs
  clear hs
  go_enter Tryz.func3,Tryz.ntmps3
  go_wp2_with (refine zh 24 _ (yf alg a1 n1 c1 a2 n2 c2 a3 n3 c3 back) _ rfl rfl rfl rfl ?_)
  intro w1 hb hbel;have HS:=znq (HS.znr.push hb hbel);clear hb hbel
  go_wp2_with (refine (HS.znr.get 0 rfl).wload rfl rfl rfl zx rfl ?_)
  refine (xc alg a1 n1 c1 a2 n2 c2 a3 n3 c3 back _).mono ?_
  rintro e w2 ⟨rfl,hbel⟩
  rw [ds]
  have HS:=znq (HS.znr.later hbel)
  clear hbel
  go_wp2
  go_ret
  exact ⟨rfl,HS.znr.bel⟩
 have ds:=decide_eq_true hs
 obtain ⟨hs1,hs2,hs3⟩:=hs
 by_cases hw:wrongG alg n1=0
 ·have HW:=znq hw
  obtain ⟨k,hk⟩:∃ k,k=jy alg b1:=⟨_,rfl⟩
  have HK:=znq (show jy alg b1=k∧(k.alg:Int)=alg∧(k.least:Int)=wg alg from ⟨hk.symm,by rw [hk];exact zdt (by rw [hb1];exact hw),by rw [hk,jz (by rw [hb1];exact hw)]⟩)
  have HB1:=znq hb1
  have HL1:=znq hl1
  have HB2:=znq hb2
  have HL2:=znq hl2
  have HB3:=znq hb3
  have HL3:=znq hl3
  have HG:=znq hg
  have HBG:=znq hbg
  clear hw hb1 hl1 hb2 hl2 hb3 hl3 hg hbg hk
  go_enter Tryz.func3,Tryz.ntmps3
  go_wp2_with (refine zh 24 _ (yf alg a1 n1 c1 a2 n2 c2 a3 n3 c3 back) _ rfl rfl rfl rfl ?_)
  intro w1 hb hbel;have HS:=znq (HS.znr.push hb hbel);clear hb hbel
  go_wp2_with (refine (HS.znr.get 0 rfl).wload rfl rfl rfl zx rfl ?_)
  refine (xc alg a1 n1 c1 a2 n2 c2 a3 n3 c3 back _).mono ?_
  rintro e w2 ⟨rfl,hbel⟩
  rw [ds]
  have HS:=znq (HS.znr.later hbel)
  clear hbel
  have hx0:=fun (x:zG w2.drew)=>((HS.znr.get 0 rfl).drew.below x.later (HS.znr.get 0 rfl).drew.lt).cell 0 _ rfl
  have hx1:=fun (x:zG w2.drew)=>((HS.znr.get 0 rfl).drew.below x.later (HS.znr.get 0 rfl).drew.lt).cell 1 _ rfl
  go_wp2_with fail
  refine zn [1,2,3,4,0,5,6,7,8,9,10] (by kernel_rfl) (by kernel_rfl) ?_
  rintro w3 rfl
  refine mqR ?_
  clear hx0 hx1
  have HS:=znq HS.znr.drew
  refine zi rfl rfl (by rfl) (fun K hK=>?_)
  go_simp
  refine (wF _ (HG.znr.below HS.znr.bel)).mono ?_
  rintro e w3 ⟨q,p,rfl,ht,hbel⟩
  have HT:=znq ht
  have HS:=znq (HS.znr.later hbel)
  go_simp
  refine hK _ _ hbel ?_
  clear hK K hbel ht
  refine zi rfl rfl (by rfl) (fun K hK=>?_)
  go_simp
  refine (zgk alg q p a1 n1 c1 b1 _ HB1.znr HW.znr hc1 (HL1.znr.below HS.znr.bel) HT.znr (HBG.znr.below HS.znr.bel)).mono ?_
  rintro e w4 ⟨cp,rfl,hst,hbel⟩
  have hci:qu _ _ _:=hst.self
  clear hst
  rw [HK.znr.1] at hci
  have HC:=znq hci
  have HS:=znq (HS.znr.later hbel)
  go_simp
  refine hK _ _ hbel ?_
  clear hK K hbel hci
  refine mqR ?_
  refine zo ?_
  have hx0:=(HS.znr.get 0 rfl).cell 0 _ rfl
  have hx1:=(HS.znr.get 0 rfl).cell 1 _ rfl
  go_wp2_with fail
  refine (zdv alg a1 n1 c1 _).mono ?_
  rintro e w5 ⟨rfl,rfl⟩
  go_wp2_with fail
  refine (qb alg a1 n1 c1 _).mono ?_
  rintro e w5 ⟨rfl,rfl⟩
  rw [HW.znr]
  clear hx0 hx1
  have hx0:=fun (x:zG w4.drew)=>((HS.znr.get 0 rfl).drew.below x.later (HS.znr.get 0 rfl).drew.lt).cell 0 _ rfl
  go_wp2_with fail
  refine zn [0,2,3,1,4,5,6,8,9,7,10,11,12,13,14,15,16] (by kernel_rfl) (by kernel_rfl) ?_
  rintro w5 rfl
  have HS:=znq HS.znr.drew
  have HC:=znq (HC.znr.later (Below.refl _ _).drew)
  refine mqW ?_
  refine zi rfl rfl (by rfl) (fun K hK=>?_)
  go_simp
  refine (znd cp k _ HC.znr).mono ?_
  rintro e w5 ⟨rfl,rfl⟩
  rw [HK.znr.2.1]
  go_simp
  refine hK _ _ (zW.refl _) ?_
  clear hK K
  refine mqW ?_
  refine zi rfl rfl (by rfl) (fun K hK=>?_)
  go_simp
  refine (vH cp k _ HC.znr).mono ?_
  rintro e w5 ⟨rfl,rfl⟩
  rw [HK.znr.2.2]
  go_simp
  refine hK _ _ (zW.refl _) ?_
  clear hK K
  refine mqW ?_
  refine zi rfl rfl (by rfl) (fun K hK=>?_)
  go_simp
  refine (J4 alg _).mono ?_
  rintro e w5 ⟨rfl,rfl⟩
  go_simp
  refine hK _ _ (zW.refl _) ?_
  clear hK K
  refine mqW ?_
  refine zi rfl rfl (by rfl) (fun K hK=>?_)
  go_simp
  refine (qc _ (HG.znr.below HS.znr.bel) (HBG.znr.below HS.znr.bel)).mono ?_
  rintro e w6 ⟨rfl,hbel⟩
  have HS:=znq (HS.znr.later hbel)
  go_simp
  refine hK _ _ hbel ?_
  clear hK K hbel hx0
  refine mqW ?_
  refine zo ?_
  go_wp2
  go_ret
  exact ⟨rfl,HS.znr.bel⟩
 ·have HW:=znq hw
  have hwr:((wrongG alg n1:Int) != 0)=true:=by simp;omega
  have hwr2:wrongG alg n1≠0:=hw
  have HB1:=znq hb1
  have HL1:=znq hl1
  have HB2:=znq hb2
  have HL2:=znq hl2
  have HB3:=znq hb3
  have HL3:=znq hl3
  have HG:=znq hg
  have HBG:=znq hbg
  clear hw hb1 hl1 hb2 hl2 hb3 hl3 hg hbg
  go_enter Tryz.func3,Tryz.ntmps3
  go_wp2_with (refine zh 24 _ (yf alg a1 n1 c1 a2 n2 c2 a3 n3 c3 back) _ rfl rfl rfl rfl ?_)
  intro w1 hb hbel;have HS:=znq (HS.znr.push hb hbel);clear hb hbel
  go_wp2_with (refine (HS.znr.get 0 rfl).wload rfl rfl rfl zx rfl ?_)
  refine (xc alg a1 n1 c1 a2 n2 c2 a3 n3 c3 back _).mono ?_
  rintro e w2 ⟨rfl,hbel⟩
  rw [ds]
  have HS:=znq (HS.znr.later hbel)
  clear hbel
  have hx0:=fun (x:zG w2.drew)=>((HS.znr.get 0 rfl).drew.below x.later (HS.znr.get 0 rfl).drew.lt).cell 0 _ rfl
  have hx1:=fun (x:zG w2.drew)=>((HS.znr.get 0 rfl).drew.below x.later (HS.znr.get 0 rfl).drew.lt).cell 1 _ rfl
  go_wp2_with fail
  refine zn [1,2,3,4,0,5,6,7,8,9,10] (by kernel_rfl) (by kernel_rfl) ?_
  rintro w3 rfl
  refine mqR ?_
  clear hx0 hx1
  have HS:=znq HS.znr.drew
  refine zi rfl rfl (by rfl) (fun K hK=>?_)
  go_simp
  refine (wF _ (HG.znr.below HS.znr.bel)).mono ?_
  rintro e w3 ⟨q,p,rfl,ht,hbel⟩
  have HT:=znq ht
  have HS:=znq (HS.znr.later hbel)
  go_simp
  refine hK _ _ hbel ?_
  clear hK K hbel ht
  refine zi rfl rfl (by rfl) (fun K hK=>?_)
  go_simp
  refine (zlk alg q a1 n1 c1 _ HW.znr).mono ?_
  rintro e w4 ⟨rfl,rfl⟩
  go_simp
  refine hK _ _ (zW.refl _) ?_
  clear hK K
  refine mqR ?_
  refine zo ?_
  have hx0:=(HS.znr.get 0 rfl).cell 0 _ rfl
  have hx1:=(HS.znr.get 0 rfl).cell 1 _ rfl
  go_wp2_with fail
  refine (zdv alg a1 n1 c1 _).mono ?_
  rintro e w4 ⟨rfl,rfl⟩
  go_wp2_with fail
  refine (qb alg a1 n1 c1 _).mono ?_
  rintro e w4 ⟨rfl,rfl⟩
  clear HW;generalize wrongG alg n1=wr at *
  clear hx0 hx1
  have hx3:=(HS.znr.get 0 rfl).cell 3 _ rfl
  have hx4:=(HS.znr.get 0 rfl).cell 4 _ rfl
  go_wp2_with (refine (HS.znr.get 0 rfl).wload rfl rfl rfl zx rfl ?_)
  refine (zd1 alg a1 n1 c1 a2 n2 c2 a3 n3 c3 back a3 n3 c3 back _).mono ?_
  rintro e w5 ⟨rfl,hbel⟩
  have HS:=znq (HS.znr.later hbel)
  clear hbel hx3 hx4
  have hx3:=(HS.znr.get 0 rfl).cell 3 _ rfl
  have hx4:=(HS.znr.get 0 rfl).cell 4 _ rfl
  go_wp2_with fail
  refine (zin a3 n3 c3 back _).mono ?_
  rintro e w6 ⟨rfl,hbel⟩
  have HS:=znq (HS.znr.later hbel)
  clear hbel hx3 hx4
  go_wp2_with fail
  refine (zio _).mono ?_
  rintro e w7 ⟨rfl,hbel⟩
  have HS:=znq (HS.znr.later hbel)
  clear hbel
  have hx4:=(HS.znr.get 0 rfl).cell 4 _ rfl
  go_wp2_with fail
  refine (zdz none 0 0 none 0 0 back _).mono ?_
  rintro e w8 ⟨rfl,rfl⟩
  clear hx4
  go_wp2_with fail
  refine (ziq _).mono ?_
  rintro e w8 ⟨rfl,rfl⟩
  go_wp2_with fail
  refine (zd0 _).mono ?_
  rintro e w8 ⟨rfl,rfl⟩
  go_wp2_with fail
  refine (qc _ (HG.znr.below HS.znr.bel) (HBG.znr.below HS.znr.bel)).mono ?_
  rintro e w9 ⟨rfl,hbel⟩
  have HS:=znq (HS.znr.later hbel)
  clear hbel
  skip
  go_wp2
  go_ret
  exact ⟨rfl,HS.znr.bel⟩
end Go.Proofs.YtbpghohkhngdfaaGreatDoor
namespace Go.Mem
open Go.RowKit Go.Cells Go.Ops
theorem XQ {P:Program} {w:World} {o:Oper} {a:Act} {K:Act→World→Prop} {Q:Exit→Act→World→Prop} (s x:Operand) (t e:TypeId) (z:Value) (by':Nat)
  (ho:o.op=.call { callee:=.builtin .append,args:=#[s,x],argTypes:=#[t,t] }) (ht:P.underlying t=some (.slice e)) (hi5:(P.info? e).map (fun i=>(i.zero,i.size,i.bytes))=some (some z,1,by')) (hzs:z.cells.size=1)
  (b:Addr) (hs:a.eval s=.slice (some b) 0 0) (ao:Option Addr) (m c:Nat) (news:List Value) (hx:a.eval x=.slice ao m c) (hl:news.length=m) (hlies:zr w ao news) (h1:∀ u∈news,u.oneCell'=true)
  (h63:m≤140737488355328) (hby:by'=1)
  (h:∀ a' c' w',m≤c'→c'≤maxLen→zr w' a' news→(0 < m→w'.ownsRow w.heap.size e 1 (.slice a' m c') m news)→Below w.heap.size w w'→K (a.put o.dst (.slice a' m c')) w'):o.wp P a w K Q:=by
 subst hby
 obtain ⟨i,hi,hzz⟩:=Option.map_eq_some_iff.1 hi5
 simp only [Prod.mk.injEq] at hzz
 obtain ⟨hz,hsz,hby⟩:=hzz
 by_cases hm:m=0
 ·subst hm
  obtain rfl:news=[]:=List.eq_nil_of_length_eq_zero hl
  have hrun:(Builtin.append_ #[t,t] o.type #[.slice (some b) 0 0,.slice ao 0 c]).run P w=.ok (.slice (some b) 0 0) w:=by
   cases ao <;> simp [Builtin.append_,run_underlying ht,sizeOf,typeInfo,hi,Builtin.lenOf,Builtin.firstCells,storeCells,loadCells,loadCellsFrom]
  unfold Oper.wp
  simp [execOp,ho,resolve,invoke,builtin,hs,hx,hrun,Result.andThen]
  exact h _ _ _ (Nat.le_refl _) (by simp [maxLen]) (zr.nil _ _) (fun h=>absurd h (by omega)) (Below.refl _ _)
 ·obtain ⟨b',off,rfl,_,hc⟩:=hlies.at (by rintro rfl;simp at hl;omega)
  have hr:=run_append_grow (P:=P) w t o.type e i z ht hi hz b 0 0 [] (by simp) (by intro j v hj;simp at hj) ⟨b',off,none⟩ m c news (by rw [hl,hsz,Nat.mul_one]) hlies.news (by omega) (by omega) (growslice_fits (by omega) (by rw [hby];omega))
  simp only [Nat.zero_add] at hr
  have hge:=grownCap_ge w m 0 e
  have hcm:grownCap w m 0 e≤maxLen:=grownCap_le_maxLen w m 0 e (by unfold maxLen;omega)
  generalize grownCap w m 0 e=cap at hr hge hcm
  have hzc:(Builtin.zeroCells z.cells (cap - m)).size=cap - m:=by rw [size_zeroCells,hzs];omega
  have hown:World.ownsRow (w.drew.alloc (.cells ([].toArray++news.toArray++Builtin.zeroCells z.cells (cap - m)) e)) w.heap.size e 1 (.slice (some ⟨w.heap.size,0,none⟩) m cap) m news:=by
   refine ⟨by rw [hl,Nat.mul_one],.inr ⟨w.heap.size,cap,_,rfl,Nat.le_refl _,heap_alloc_new w.drew _,hge,hcm,?_,?_⟩⟩
   ·simp [hzc,hl];omega
   ·simp [hl]
  unfold Oper.wp
  simp [execOp,ho,resolve,invoke,builtin,hs,hx,hr,Result.andThen]
  have hbel:Below w.heap.size w (w.drew.alloc (.cells ([].toArray++news.toArray++Builtin.zeroCells z.cells (cap - m)) e)):=(Below.refl _ _).drew.alloc (Nat.le_refl _) _
  have hk:=h (some ⟨w.heap.size,0,none⟩) cap _ hge hcm (zr.of_own hown) (fun _=>hown) hbel
  simp at hk
  exact hk
theorem YK {w:World} {base n:Nat} {e:TypeId} {v:Value} {xs:List Value} (h:w.ownsRow base e 1 v n xs) (hn:0 < n):∃ g cap tl,v=.slice (some ⟨g,0,none⟩) n cap∧Blk w g (xs++tl) e∧base≤g∧n≤cap:=by
 rcases h.2 with ⟨_,h0⟩ | ⟨g,cap,cur,rfl,hb,hg,h1,h2,h3,ht⟩
 ·omega
 ·refine ⟨g,cap,cur.toList.drop (n*1),rfl,?_,hb,h1⟩
  rw [← ht,List.take_append_drop]
  unfold Blk
  rw [hg]
theorem ZY {w:World} {g:Nat} {xs tl:List Value} {ty:TypeId} (h:Blk w g (xs++tl) ty):zr w (some ⟨g,0,none⟩) xs:=by
 have:=h.lies.take xs.length
 rwa [List.take_left] at this
end Go.Mem
namespace Go.Cells
open Go.RowKit Go.Mem
def Zt (S:Nat→Prop) (w:World) (X:World→Prop):Prop:=∀ w',Up S w w'→X w'
theorem Zt.later {S:Nat→Prop} {w w':World} {X:World→Prop} (h:Zt S w X) (hb:Below w.heap.size w w'):Zt S w' X:=fun w'' hu=>h w'' ((Up.of_below hb).trans hu)
theorem Zt.only {S:Nat→Prop} {b:Nat} {w w':World} {X:World→Prop} (h:Zt S w X) (ho:Only b w w') (hn:¬ S b):Zt S w' X:=fun w'' hu=>h w'' ((Up.of_only ho hn).trans hu)
theorem Zt.onlyB {S:Nat→Prop} {b:Nat} {w w':World} {X:World→Prop} (h:Zt S w X) (ho:zI b w w') (hn:¬ S b):Zt S w' X:=fun w'' hu=>h w'' ((Up.of_onlyB ho hn).trans hu)
theorem Zt.self {S:Nat→Prop} {w:World} {X:World→Prop} (h:Zt S w X):X w:=h w (Up.refl _ _)
theorem Std.stays {base:Nat} {w:World} {X:World→Prop} (h:Std base [] w X):Zt (fun i=>base≤i∧i < w.heap.size) w X:=fun w' hu=>h (fun i=>base≤i) w' (fun i hi=>hi.elim id (by simp)) ⟨hu.size,fun k hk hl=>hu.block k ⟨hk,hl⟩ hl⟩
end Go.Cells
namespace Go.Mem
open Go.RowKit Go.Cells Go.Ops
end Go.Mem

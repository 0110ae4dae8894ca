/-
  Texts of this claim, one behind the other.
-/
import Derived.Test.YtamdifhibogdiaaGreatDoorX1
import Derived.Test.YtamdifhibogdiaaGreatDoorX2
import Derived.Lib.Hide
set_option linter.unusedVariables false
set_option linter.unusedSimpArgs false
set_option maxHeartbeats 16000000
set_option maxRecDepth 100000
open Array renaming ext_getElem?→gZ,getD_eq_getD_getElem?→uk,getElem?_eq_some_iff→uJ,getElem?_setIfInBounds_ne→uR,getElem?_setIfInBounds_self→bE,replicate→uS
open Int renaming natCast_emod→lY
open List renaming all_eq_true→WI,contains_iff_mem→uw,eq_nil_of_length_eq_zero→uG,filter_eq_self→dV,getElem?_drop→dJ,getElem?_eq_none→qc,getElem?_replicate→gF,length_cons→uh,length_map→yf,length_take→Ku,map_append→uI,map_cons→dI,map_drop→dz,mem_append_left→uN,mem_cons→uB,mem_cons_of_mem→ui,mem_filter→uK,mem_filterMap→lC,mem_map→ug,nil_append→uo,nodup_cons→fQ,take_zero→cO
open Nat renaming add_sub_cancel_left→gJ,le_refl→xc,le_trans→uj,lt_of_lt_of_le→bI,min_eq_left→cz,mod_lt→ma,sub_self→l5,zero_add→bH
open Option renaming getD_some→lD,map_some→cB,some.injEq→lg
namespace Go
open RowKit
section
variable {P:Program} {ops:Array Oper} {Q:Exit→Act→World→Prop} {md:Region.Mode}
structure zH where
 idx:Nat
 dst:Tmp
 obj:Obj
 val:Nat→Value
def zH.Fits (P:Program) (ops:Array Oper) (a:Act) (w:World) (f:zH):Prop :=
 f.dst < a.tmps.size∧∃ o,ops[f.idx]? = some o∧o.dst=some f.dst∧o.guard=none∧(∀ cs b,o.op≠.select cs b) ∧
  ∀ w',zW w w'→(execOp a.eval o).run P w'=.ok (.value (f.val w'.heap.size)) (w'.alloc f.obj)
def Act.over (a:Act):List Tmp→List Value→Act
 | d::r,v::vs=>(a.put (some d) v).over r vs
 | _,_=>a
def jn (S:List Tmp) (x a:Act):Prop:=x.defers=a.defers∧x.tmps.size=a.tmps.size∧∀ t,t∉S→x.tmps[t]? = a.tmps[t]?
theorem jn.refl (S:List Tmp) (a:Act):jn S a a:=⟨rfl,rfl,fun _ _=>rfl⟩
theorem wK (a:Act) (dst:Option Tmp) (v:Value) (t:Tmp) (h:dst≠some t):(a.put dst v).tmps[t]? = a.tmps[t]?:=by
 cases dst with
 | none=>rfl
 | some d=>exact uR (fun e=>h (congrArg some e))
theorem jL (a:Act) (dst:Option Tmp) (v:Value):(a.put dst v).tmps.size=a.tmps.size:=by
 cases dst <;> simp [Act.put]
theorem wq (a:Act) (dst:Option Tmp) (v:Value):(a.put dst v).defers=a.defers:=by cases dst <;> rfl
theorem jn.put {S:List Tmp} {x a:Act} (h:jn S x a) (dst:Option Tmp) (v:Value):jn S (x.put dst v) (a.put dst v):=by
 refine ⟨by rw [wq,wq];exact h.1,by rw [jL,jL];exact h.2.1,fun t ht=>?_⟩
 by_cases e:dst=some t
 ·subst e
  simp only [Act.put,bE,h.2.1]
 ·rw [wK _ _ _ _ e,wK _ _ _ _ e]
  exact h.2.2 t ht
theorem jn.zdI {S:List Tmp} {x a:Act} (h:jn S x a) {d:Tmp} (hd:d∈S) (v:Value):jn S (x.put (some d) v) a:=by
 refine ⟨by rw [wq];exact h.1,by rw [jL];exact h.2.1,fun t ht=>?_⟩
 rw [wK _ _ _ _ (fun e=>by cases e;exact ht hd)]
 exact h.2.2 t ht
theorem jn.over:∀ {S:List Tmp} {x a:Act},jn S x a→x=a.over S (S.map fun d=>x.tmps.getD d undef)
 | [],x,a,h=>by
  obtain ⟨xt,xd⟩:=x
  obtain ⟨at',ad⟩:=a
  obtain ⟨h1,h2,h3⟩:=h
  simp only at h1 h2 h3
  subst h1
  have:xt=at':=gZ fun i=>h3 i (by simp)
  subst this
  rfl
 | d::r,x,a,h=>by
  refine jn.over (S:=r) (a:=a.put (some d) (x.tmps.getD d undef)) ⟨by rw [wq];exact h.1,by rw [jL];exact h.2.1,fun t ht=>?_⟩
  by_cases e:d=t
  ·subst e
   simp only [Act.put,bE,← h.2.1]
   by_cases hs:d < x.tmps.size
   ·simp [hs,Array.getD]
   ·simp [hs]
  ·rw [wK _ _ _ _ (fun e'=>by cases e';exact e rfl)]
   exact h.2.2 t (by simp;exact ⟨fun e'=>e e'.symm,ht⟩)
theorem Xr {S:List Tmp} {x a:Act} (h:jn S x a) (o:Oper) (hs:∀ cs b,o.op≠.select cs b) (ho:∀ d,d∈S→d∉o.looksAt ops):execOp x.eval o=execOp a.eval o :=
 execOp_congr o hs fun y hy=>by
  cases y with
  | tmp t =>
   have ht:t∉S:=fun hm=>ho t hm (uN _ (lC.2 ⟨.tmp t,by simpa using hy,rfl⟩))
   have:=h.2.2 t ht
   simp only [Act.eval,uk,this]
  | _=>rfl
theorem Oper.zfC {o:Oper} {a:Act} {w:World} {K:Act→World→Prop} (hh:o.wp P a w K Q):o.wp P a w (fun a' w'=>(a'.tmps.size=a.tmps.size∧∀ t,o.dst≠some t→a'.tmps[t]? = a.tmps[t]?)∧K a' w') Q:=by
 unfold Oper.wp at *
 generalize (execOp a.eval o).run P w=r at *
 cases r with
 | ok n w' =>
  cases n <;> simp only [Oper.upon] at hh ⊢ <;>
   first
    | exact ⟨⟨jL _ _ _,fun t ht=>wK _ _ _ _ ht⟩,hh⟩
    | exact Calls.mono hh (fun e w'' he=>by cases e <;> first | exact ⟨⟨jL _ _ _,fun t ht=>wK _ _ _ _ ht⟩,he⟩ | exact he)
    | exact Rows.mono hh (fun _ _ he=>⟨⟨jL _ _ _,fun t ht=>wK _ _ _ _ ht⟩,he⟩)
    | exact hh
 | halt x w'=>cases x <;> simp only [Oper.upon] at hh ⊢ <;> exact hh
theorem zH.Fits.off {a a':Act} {w w':World} {f:zH} {o:Oper} (h:f.Fits P ops a w) (hw:zW w w') (hsz:a'.tmps.size=a.tmps.size) (ht:∀ t,o.dst≠some t→a'.tmps[t]? = a.tmps[t]?)
  (hap:∀ o',ops[f.idx]? = some o'→∀ d,o.dst=some d→d∉o'.looksAt ops):f.Fits P ops a' w':=by
 obtain ⟨h0,o',h1,h2,h3,h4,h5⟩:=h
 refine ⟨by rw [hsz];exact h0,o',h1,h2,h3,h4,fun w'' hw''=>?_⟩
 have:execOp a'.eval o'=execOp a.eval o':=execOp_congr o' h4 fun y hy=>by
  cases y with
  | tmp t =>
   have hne:o.dst≠some t:=fun e=>hap o' h1 t e (uN _ (lC.2 ⟨.tmp t,by simpa using hy,rfl⟩))
   simp only [Act.eval,uk,ht t hne]
  | _=>rfl
 rw [this]
 exact h5 w'' (hw.trans hw'')
def zN (P:Program) (ops:Array Oper) (Q:Exit→Act→World→Prop) (F:List zH) (base:Nat) (k:Act→World→Prop):List Nat→Act→World→Prop
 | [],a,w=>∀ (ns:List Nat) (w1:World),ns.length=F.length→zW w w1→(∀ (j:Nat) (f:zH) (n:Nat),F[j]? = some f→ns[j]? = some n→base≤n∧w1.heap[n]? = some f.obj)→ns.Nodup →
   k (a.over (F.map (·.dst)) (F.zipWith (fun f n=>f.val n) ns)) w1
 | i::r,a,w =>
  match ops[i]? with
  | none=>False
  | some o =>
   if o.nR=0 then ∃ v,(∀ w',zW w w'→(execOp a.eval o).run P w'=.ok (.value v) w')∧zN P ops Q F base k r (a.put o.dst v) w
   else ∀ (us:List Value) (w1:World),us.length=F.length→zW w w1 →
    o.wp P (a.over (F.map (·.dst)) us) w1 (fun a' w'=>zW w1 w'∧zN P ops Q F base k r a' w') Q
def Region.plus (listed:Array Bool) (F:List Nat):Array Bool:=F.foldl (fun l i=>l.setIfInBounds i true) listed
def Region.tQ (md:Region.Mode) (ops:Array Oper) (F:List Nat):List Nat→Array Bool→Bool
 | [],listed=>F.all fun f=>(Region.ready md ops listed).contains f && (Region.ready md ops (Region.plus listed (F.filter (· != f)))).all F.contains
 | i::r,listed =>
  (match ops[i]? with
   | none=>false
   | some o=>o.guard.isNone && !F.contains i && (Region.ready md ops listed).contains i &&
    (F.all fun f=>match ops[f]? with | some of=>of.apart ops o | none=>false) &&
    (if o.nR=0 then Region.zaI md ops listed i && (Region.pO md ops listed i).all (fun d=>!F.contains d)
     else o.nR==1 && (Region.ready md ops (Region.plus listed F)).all (·==i))) &&
  Region.tQ md ops F r (listed.setIfInBounds i true)
def Region.zeM (ops:Array Oper) (F:List Nat):Bool :=
 F.all fun f=>F.all fun g=>match ops[f]?,ops[g]? with
  | some of,some og=>(match og.dst with | some d=>!(of.looksAt ops).contains d | none=>false) && (f==g || of.dst != og.dst)
  | _,_=>false
theorem Zz (F:List Nat):∀ (listed:Array Bool) (j:Nat),(Region.plus listed F)[j]? = (listed[j]?).map (· || F.contains j):=by
 induction F with
 | nil=>intro listed j;simp [Region.plus]
 | cons f r ih =>
  intro listed j
  have:=ih (listed.setIfInBounds f true) j
  unfold Region.plus at this ⊢
  rw [List.foldl_cons,this]
  by_cases e:f=j
  ·subst e
   simp only [bE]
   by_cases hs:f < listed.size
   ·simp [hs]
   ·simp [hs]
  ·rw [uR e]
   have e':¬ j=f:=fun h=>e h.symm
   simp [e']
theorem vh {l:Array Bool} {j:Nat} {d:Bool}:l.getD j d=(l[j]?).getD d:=by simp [uk]
theorem ZA {listed l1:Array Bool} {b:Nat→Bool} (h:∀ j,l1[j]? = (listed[j]?).map (· || b j)) {i:Nat} (hi:i∈Region.ready md ops listed) (hb:b i=false):i∈Region.ready md ops l1:=by
 obtain ⟨h1,o,ho,h2⟩:=mem_ready.1 hi
 refine mem_ready.2 ⟨?_,o,ho,fun e he hbd=>?_⟩
 ·rw [vh] at h1 ⊢
  rw [h,hb]
  cases hl:listed[i]? with
  | none=>rw [hl] at h1;simp at h1
  | some x=>rw [hl] at h1;simpa using h1
 ·have:=h2 e he hbd
  rw [vh] at this ⊢
  rw [h]
  cases hl:listed[e.on]? with
  | none=>rw [hl] at this;simp at this
  | some x=>rw [hl] at this;simp at this;simp [this]
theorem K1 {l1 l2:Array Bool} {listed:Array Bool} {b c:Nat→Bool} (h1:∀ j,l1[j]? = (listed[j]?).map (· || b j)) (h2:∀ j,l2[j]? = (listed[j]?).map (· || c j)) (hbc:∀ j,b j=true→c j=true) {j:Nat}
  (hj:j∈Region.ready md ops l1) (hc:c j=false):j∈Region.ready md ops l2:=by
 refine ZA (listed:=l1) (b:=fun k=>c k) (fun k=>?_) hj hc
 rw [h1,h2]
 cases listed[k]? with
 | none=>rfl
 | some x =>
  simp only [cB,lg]
  cases hb:b k with
  | false=>simp
  | true=>simp [hbc k hb]
theorem WM {f:zH} {a:Act} {w w1:World} {K:Act→World→Prop} (hf:f.Fits P ops a w) (hw:zW w w1) (h:K (a.put (some f.dst) (f.val w1.heap.size)) (w1.alloc f.obj)):wpOp P ops Q f.idx K a w1:=by
 obtain ⟨_,o,ho,hd,hg,_,hr⟩:=hf
 unfold wpOp
 simp only [ho,Region.wanted,hg,if_true]
 refine .inl ?_
 unfold Oper.wp
 rw [hr w1 hw,Oper.upon_value,hd]
 exact h
theorem zfr:∀ (l:List zH),(l.map (·.idx)).Nodup→∀ {f g:zH},f∈l→g∈l→f.idx=g.idx→f=g
 | [],_,_,_,h,_,_=>by cases h
 | x::r,hn,f,g,hf,hg,e=>by
  rw [dI,fQ] at hn
  rcases uB.1 hf with h | hf
  ·rcases uB.1 hg with h' | hg
   ·rw [h,h']
   ·rw [h] at e
    exact absurd (ug.2 ⟨g,hg,e.symm⟩) hn.1
  ·rcases uB.1 hg with h' | hg
   ·rw [h'] at e
    exact absurd (ug.2 ⟨f,hf,e⟩) hn.1
   ·exact zfr r hn.2 hf hg e
theorem Region.zaJ {i:Nat} {oi:Oper} {listed:Array Bool} (hi:ops[i]? = some oi) (h:Region.zaI md ops listed i=true) (D:Nat→Bool) (hDD:∀ d,D d=(Region.pO md ops listed i).contains d) :
  D i=false∧(∀ d,D d=true→∃ od,ops[d]? = some od∧∃ e∈od.after,Region.binds md e=true∧(e.on=i∨D e.on=true)) ∧
   (∀ d,D d=true→listed.getD d true=false) ∧
   (∀ j oj,ops[j]? = some oj→j≠i→listed.getD j true=false→D j=false→oi.apart ops oj=true∧oj.nR≠2):=by
 unfold Region.zaI at h
 simp only [hi] at h
 obtain rfl:D=fun d=>(Region.pO md ops listed i).contains d:=funext hDD
 generalize Region.pO md ops listed i=L at h
 unfold Region.zdH at h
 rw [Bool.and_eq_true,Bool.and_eq_true] at h
 obtain ⟨⟨h1,h2⟩,h3⟩:=h
 rw [WI] at h2 h3
 refine ⟨by simpa using h1,fun d hd=>?_,fun d hd=>?_,fun j oj hj hne hun hnd=>?_⟩
 ·have:=h2 d (by simpa using hd)
  rw [Bool.and_eq_true] at this
  cases hod:ops[d]? with
  | none=>simp [hod] at this
  | some od =>
   have h4:=this.2
   simp only [hod] at h4
   obtain ⟨e,he,hb⟩:=Array.any_eq_true'.1 h4
   rw [Bool.and_eq_true,Bool.or_eq_true] at hb
   exact ⟨od,rfl,e,he,hb.1,hb.2.imp (fun h=>by simpa using h) id⟩
 ·have:=h2 d (by simpa using hd)
  rw [Bool.and_eq_true] at this
  simpa using this.1
 ·have hlt:j < ops.size:=(uJ.1 hj).1
  have:=h3 j (List.mem_range.2 hlt)
  have e1:(j==i)=false:=by simpa using hne
  simp only at hnd
  rw [e1,hun,hnd,Bool.false_or,Bool.false_or,Bool.false_or] at this
  simp only [hj,Bool.and_eq_true] at this
  exact ⟨this.1,by simpa using this.2⟩
theorem zbe {listed l1:Array Bool} {b:Nat→Bool} (h:∀ j,l1[j]? = (listed[j]?).map (· || b j)) (i:Nat) (j:Nat):(l1.setIfInBounds i true)[j]? = ((listed.setIfInBounds i true)[j]?).map (· || b j):=by
 have hs:l1.size=listed.size:=by
  have h1:l1.size≤listed.size:=by
   have:=h listed.size
   rw [show listed[listed.size]? = none by simp] at this
   simpa using this
  have h2:listed.size≤l1.size:=by
   have:=h l1.size
   rw [show l1[l1.size]? = none by simp] at this
   cases hl:listed[l1.size]? with
   | none=>simpa using hl
   | some x=>rw [hl] at this;cases this
  omega
 by_cases e:i=j
 ·subst e
  simp only [bE,hs]
  by_cases hi:i < listed.size <;> simp [hi]
 ·rw [uR e,uR e]
  exact h j
theorem zgp {F:List zH} {a:Act} {w:World} (rX:Region.zeM ops (F.map (·.idx))=true) (hfit:∀ f∈F,f.Fits P ops a w) {f:zH} (hf:f∈F) {d:Tmp} (hd:d∈F.map (·.dst)) {o:Oper} (ho:ops[f.idx]? = some o) (zaK:d∈o.looksAt ops):False:=by
 obtain ⟨g,hgF,rfl⟩:=ug.1 hd
 unfold Region.zeM at rX
 rw [WI] at rX
 have:=rX f.idx (ug.2 ⟨f,hf,rfl⟩)
 rw [WI] at this
 have:=this g.idx (ug.2 ⟨g,hgF,rfl⟩)
 obtain ⟨_,og,hg1,hg2,_⟩:=hfit g hgF
 rw [ho,hg1] at this
 simp only [hg2,Bool.and_eq_true,Bool.not_eq_true'] at this
 have h6:=this.1
 simp [zaK] at h6
theorem zi8 {listed l1:Array Bool} {dn:Nat→Option Nat} (hl1:∀ j,l1[j]? = (listed[j]?).map (· || (dn j).isSome)) {j:Nat} (hj:j∈Region.ready md ops l1):dn j=none:=by
 have h1:=(mem_ready.1 hj).1
 rw [vh,hl1] at h1
 cases hd:dn j with
 | none=>rfl
 | some n =>
  rw [hd] at h1
  cases hl:listed[j]? with
  | none=>rw [hl] at h1;simp at h1
  | some x=>rw [hl] at h1;simp at h1
theorem zbf (hs:Region.noSelect ops=true) (hQ:∀ c a w,¬ Q (.panic c) a w) (F:List zH) (base:Nat) (k:Act→World→Prop) (R:Nat) (hF:(F.map (·.idx)).Nodup) (rX:Region.zeM ops (F.map (·.idx))=true) :
  ∀ (σ:List Nat) (listed:Array Bool) (a:Act) (w:World),Region.tQ md ops (F.map (·.idx)) σ listed=true→zN P ops Q F base k σ a w →
   (∀ a w fuel,R≤fuel→k a w→qJ P md ops Q fuel (Region.plus (σ.foldl (fun l i=>l.setIfInBounds i true) listed) (F.map (·.idx))) a w) →
   ∀ (und:Nat) (dn:Nat→Option Nat) (l1:Array Bool) (act:Act) (w1:World) (fuel:Nat),
    (F.filter (fun f=>(dn f.idx).isNone)).length=und →
    (∀ j,l1[j]? = (listed[j]?).map (· || (dn j).isSome)) →
    (∀ j,(dn j).isSome=true→j∈F.map (·.idx)) →
    zW w w1→jn (F.map (·.dst)) act a →
    (∀ f∈F,f.Fits P ops a w) →
    (∀ f∈F,∀ n,dn f.idx=some n→base≤n∧w1.heap[n]? = some f.obj∧act.tmps.getD f.dst undef=f.val n) →
    (∀ i j n,dn i=some n→dn j=some n→i=j) →
    base≤w1.heap.size →
    σ.length+und+R≤fuel →
    qJ P md ops Q fuel l1 act w1:=by
 intro σ
 -- one maker more,whatever the place in the order
 have maker:∀ (listed:Array Bool) (a:Act) (w:World) (und:Nat) (dn:Nat→Option Nat) (l1:Array Bool) (act:Act) (w1:World) (fuel:Nat) (j:Nat),
   (F.filter (fun f=>(dn f.idx).isNone)).length=und+1→(∀ j,l1[j]? = (listed[j]?).map (· || (dn j).isSome))→(∀ j,(dn j).isSome=true→j∈F.map (·.idx))→zW w w1→jn (F.map (·.dst)) act a →
   (∀ f∈F,f.Fits P ops a w)→(∀ f∈F,∀ n,dn f.idx=some n→base≤n∧w1.heap[n]? = some f.obj∧act.tmps.getD f.dst undef=f.val n)→(∀ i j n,dn i=some n→dn j=some n→i=j)→base≤w1.heap.size →
   j∈Region.ready md ops l1→j∈F.map (·.idx) →
   (∀ (dn':Nat→Option Nat) (l1':Array Bool) (act':Act) (w1':World),(F.filter (fun f=>(dn' f.idx).isNone)).length=und→(∀ j,l1'[j]? = (listed[j]?).map (· || (dn' j).isSome))→(∀ j,(dn' j).isSome=true→j∈F.map (·.idx))→zW w w1'→jn (F.map (·.dst)) act' a →
    (∀ f∈F,∀ n,dn' f.idx=some n→base≤n∧w1'.heap[n]? = some f.obj∧act'.tmps.getD f.dst undef=f.val n)→(∀ i j n,dn' i=some n→dn' j=some n→i=j)→base≤w1'.heap.size→qJ P md ops Q fuel l1' act' w1') →
   wpOp P ops Q j (fun a' w'=>((ops[j]?).map Oper.nR≠some 2→zW w1 w')∧qJ P md ops Q fuel (l1.setIfInBounds j true) a' w') act w1:=by
  intro listed a w und dn l1 act w1 fuel j zaD hl1 hdn hw ha hfit hdone hinj hbase hj hjF K
  obtain ⟨f,hfF,rfl⟩:=ug.1 hjF
  have hun:dn f.idx=none:=by
   have h1:=(mem_ready.1 hj).1
   rw [vh,hl1] at h1
   cases hd:dn f.idx with
   | none=>rfl
   | some n =>
    rw [hd] at h1
    cases hl:listed[f.idx]? with
    | none=>rw [hl] at h1;simp at h1
    | some x=>rw [hl] at h1;simp at h1
  have hsize:f.idx < l1.size:=by
   obtain ⟨h1,_⟩:=mem_ready.1 hj
   rw [vh] at h1
   by_cases hs:f.idx < l1.size
   ·exact hs
   ·rw [Array.getElem?_eq_none (by omega)] at h1;simp at h1
  have zjC:f.Fits P ops act w:=by
   obtain ⟨h0,o,h1,h2,h3,h4,h5⟩:=hfit f hfF
   refine ⟨by rw [ha.2.1];exact h0,o,h1,h2,h3,h4,fun w' hw'=>?_⟩
   rw [Xr (ops:=ops) ha o h4 (fun d hd zaK=>?_)]
   ·exact h5 w' hw'
   ·obtain ⟨g,hgF,rfl⟩:=ug.1 hd
    unfold Region.zeM at rX
    rw [WI] at rX
    have:=rX f.idx (ug.2 ⟨f,hfF,rfl⟩)
    rw [WI] at this
    have:=this g.idx (ug.2 ⟨g,hgF,rfl⟩)
    obtain ⟨_,og,hg1,hg2,_⟩:=hfit g hgF
    rw [h1,hg1] at this
    simp only [hg2,Bool.and_eq_true,Bool.not_eq_true'] at this
    have h6:=this.1
    simp [zaK] at h6
  refine WM zjC hw ⟨fun _=>((Below.refl _ _).alloc (xc _) _),?_⟩
  refine K (fun i=>if i=f.idx then some w1.heap.size else dn i) _ _ _ ?_ ?_ ?_ ?_ ?_ ?_ ?_ ?_
  ·-- the count
   have hmem:f∈F.filter (fun g=>(dn g.idx).isNone):=uK.2 ⟨hfF,by rw [hun];rfl⟩
   have h2:F.filter (fun g=>(if g.idx=f.idx then some w1.heap.size else dn g.idx).isNone)=(F.filter (fun g=>(dn g.idx).isNone)).filter (fun g=>g.idx≠f.idx):=by
    rw [List.filter_filter]
    apply List.filter_congr
    intro g _
    by_cases e:g.idx=f.idx <;> simp [e]
   rw [h2]
   have key:∀ (l:List zH),(l.map (·.idx)).Nodup→f∈l→(l.filter (fun g=>g.idx≠f.idx)).length+1=l.length:=by
    intro l
    induction l with
    | nil=>intro _ h;cases h
    | cons x r ih =>
     intro hn hm
     rw [dI,fQ] at hn
     by_cases e:x.idx=f.idx
     ·rw [List.filter_cons_of_neg (by simp [e])]
      rw [dV.2 (fun g hg=>by
       simp only [ne_eq,decide_eq_true_eq]
       intro e2
       exact hn.1 (ug.2 ⟨g,hg,by rw [e2,e]⟩))]
      rfl
     ·rw [List.filter_cons_of_pos (by simp [e])]
      have hm':f∈r:=by
       rcases uB.1 hm with h | h
       ·exact absurd (by rw [h]) e
       ·exact h
      have:=ih hn.2 hm'
      simp only [uh]
      omega
   have:=key _ (List.Nodup.sublist (List.Sublist.map _ List.filter_sublist) hF) hmem
   omega
  ·intro j
   by_cases e:f.idx=j
   ·subst e
    rw [Array.getElem?_setIfInBounds_self_of_lt hsize]
    have:=hl1 f.idx
    cases hl:listed[f.idx]? with
    | none=>rw [hl] at this;simp at this;omega
    | some x=>simp
   ·rw [uR e,hl1,if_neg (fun h:j=f.idx=>e h.symm)]
  ·intro j hj
   split at hj
   ·rename_i e;rw [e];exact hjF
   ·exact hdn j hj
  ·exact hw.trans ((Below.refl _ _).alloc (xc _) _)
  ·exact ha.zdI (ug.2 ⟨f,hfF,rfl⟩) _
  ·intro g hg n hn
   split at hn
   ·rename_i e
    have hgf:g=f:=by
     exact zfr F hF hg hfF e
    subst hgf
    cases hn
    refine ⟨hbase,heap_alloc_new w1 _,?_⟩
    have h0:=(hfit g hg).1
    simp [Act.put,uk,ha.2.1,h0]
   ·rename_i e
    obtain ⟨h1,h2,h3⟩:=hdone g hg n hn
    have hlt:n < w1.heap.size:=(uJ.1 h2).1
    refine ⟨h1,(heap_alloc_old w1 _ hlt).trans h2,?_⟩
    have hne:f.dst≠g.dst:=by
     intro ed
     unfold Region.zeM at rX
     rw [WI] at rX
     have:=rX f.idx (ug.2 ⟨f,hfF,rfl⟩)
     rw [WI] at this
     have:=this g.idx (ug.2 ⟨g,hg,rfl⟩)
     obtain ⟨_,og,hg1,hg2,_⟩:=hfit g hg
     obtain ⟨_,of,hf1,hf2,_⟩:=hfit f hfF
     rw [hf1,hg1] at this
     simp only [hg2,hf2,ed,Bool.and_eq_true,Bool.or_eq_true] at this
     rcases this.2 with h | h
     ·exact e (by simpa using (beq_iff_eq.1 h).symm)
     ·simp at h
    rw [← h3,uk,uk,wK _ _ _ _ (fun h=>hne (by simpa using h))]
  ·intro i j n hi hj
   split at hi <;> split at hj
   ·rename_i e1 e2;rw [e1,e2]
   ·rename_i e1 e2
    cases hi
    obtain ⟨g,hg,rfl⟩:=ug.1 (hdn j (by rw [hj];rfl))
    have:=(uJ.1 (hdone g hg _ hj).2.1).1
    omega
   ·rename_i e1 e2
    cases hj
    obtain ⟨g,hg,rfl⟩:=ug.1 (hdn i (by rw [hi];rfl))
    have:=(uJ.1 (hdone g hg _ hi).2.1).1
    omega
   ·exact hinj i j n hi hj
  ·have:(w1.alloc f.obj).heap.size=w1.heap.size+1:=by show (w1.heap.push _).size=_;simp
   omega
 have drops:∀ (f:zH),f∈F→∀ (o:Oper) (r:List Nat) (i:Nat),ops[i]? = some o→(F.map (·.idx)).all (fun f=>match ops[f]? with | some of=>of.apart ops o | none=>false)=true →
   ∀ (a:Act) (w:World),f.Fits P ops a w→o.dst≠some f.dst∧∀ o',ops[f.idx]? = some o'→∀ d,o.dst=some d→d∉o'.looksAt ops:=by
  intro f hf o r i _ hall a w hfit
  rw [WI] at hall
  have:=hall f.idx (ug.2 ⟨f,hf,rfl⟩)
  obtain ⟨_,of,h1,h2,_⟩:=hfit
  rw [h1] at this
  obtain ⟨a1,a2,a3⟩:=Oper.apart_spec this
  refine ⟨a2 _ h2,fun o' ho' d hd=>?_⟩
  rw [h1] at ho'
  cases ho'
  exact a3 d hd
 induction σ with
 | nil =>
  intro listed a w hc hk hnext und
  induction und with
  | zero =>
   intro dn l1 act w1 fuel zaD hl1 hdn hw ha hfit hdone hinj hbase rM
   have hall:∀ f∈F,∃ n,dn f.idx=some n:=by
    intro f hf
    have h0:=uG zaD
    cases hd:dn f.idx with
    | some n=>exact ⟨n,rfl⟩
    | none =>
     have:f∈F.filter (fun f=>(dn f.idx).isNone):=uK.2 ⟨hf,by rw [hd];rfl⟩
     rw [h0] at this;cases this
   have e:l1=Region.plus listed (F.map (·.idx)):=by
    apply gZ
    intro j
    rw [hl1,Zz]
    congr 1
    funext x
    congr 1
    cases hd:dn j with
    | some n=>exact (uw.2 (hdn j (by rw [hd];rfl))).symm
    | none =>
     symm
     rw [Option.isSome_none,List.contains_eq_any_beq,List.any_eq_false]
     intro x hx
     obtain ⟨f,hf,rfl⟩:=ug.1 hx
     obtain ⟨n,hn⟩:=hall f hf
     intro he
     rw [beq_iff_eq.1 he,hn] at hd
     cases hd
   have hns:=hk (F.map fun f=>(dn f.idx).getD 0) w1 (by simp) hw (fun j f n hf hn=>by
     rw [List.getElem?_map,hf] at hn
     simp only [cB,lg] at hn
     have hfF:=List.mem_of_getElem? hf
     obtain ⟨m,hm⟩:=hall f hfF
     rw [hm] at hn
     simp only [lD] at hn
     subst hn
     have:=hdone f hfF m hm
     exact ⟨this.1,this.2.1⟩) (by
    have:∀ (l:List zH),(∀ f∈l,∃ n,dn f.idx=some n)→(l.map (·.idx)).Nodup→(l.map fun f=>(dn f.idx).getD 0).Nodup:=by
     intro l
     induction l with
     | nil=>intro _ _;simp
     | cons x r ih =>
      intro h1 h2
      rw [dI,fQ] at h2 ⊢
      refine ⟨?_,ih (fun f hf=>h1 f (ui _ hf)) h2.2⟩
      intro hm
      obtain ⟨g,hg,he⟩:=ug.1 hm
      obtain ⟨n,hn⟩:=h1 x (by simp)
      obtain ⟨m,hm⟩:=h1 g (ui _ hg)
      rw [hn,hm] at he
      simp only [lD] at he
      subst he
      exact h2.1 (ug.2 ⟨g,hg,hinj _ _ _ hm hn⟩)
    exact this F hall hF)
   have hact:act=a.over (F.map (·.dst)) (F.zipWith (fun f n=>f.val n) (F.map fun f=>(dn f.idx).getD 0)):=by
    have h1:=ha.over
    rw [List.map_map] at h1
    have h2:F.map ((fun d=>act.tmps.getD d undef)∘fun x=>x.dst)=F.zipWith (fun f n=>f.val n) (F.map fun f=>(dn f.idx).getD 0):=by
     rw [List.zipWith_map_right]
     have:∀ (l:List zH),(∀ f∈l,f∈F)→l.map ((fun d=>act.tmps.getD d undef)∘fun x=>x.dst)=l.zipWith (fun f g=>f.val ((dn g.idx).getD 0)) l:=by
      intro l
      induction l with
      | nil=>intro _;rfl
      | cons x r ih =>
       intro h
       obtain ⟨n,hn⟩:=hall x (h x (by simp))
       rw [dI,List.zipWith_cons_cons,ih (fun f hf=>h f (ui _ hf))]
       congr 1
       show act.tmps.getD x.dst undef=_
       rw [(hdone x (h x (by simp)) n hn).2.2,hn]
       rfl
     exact this F (fun _ h=>h)
    rw [h2] at h1
    exact h1
   rw [← hact] at hns
   rw [e]
   exact hnext act w1 fuel (by simp at rM;omega) hns
  | succ und ihu =>
   intro dn l1 act w1 fuel zaD hl1 hdn hw ha hfit hdone hinj hbase rM
   obtain ⟨fuel,rfl⟩:∃ m,fuel=m+1:=⟨fuel - 1,by simp at rM;omega⟩
   obtain ⟨g,hg⟩:∃ g,g∈F.filter (fun f=>(dn f.idx).isNone):=by
    cases hl:F.filter (fun f=>(dn f.idx).isNone) with
    | nil=>rw [hl] at zaD;simp at zaD
    | cons x r=>exact ⟨x,by simp⟩
   rw [uK] at hg
   obtain ⟨hgF,hgn⟩:=hg
   have hgn':dn g.idx=none:=by simpa using hgn
   unfold Region.tQ at hc
   rw [WI] at hc
   have hcg:=hc g.idx (ug.2 ⟨g,hgF,rfl⟩)
   rw [Bool.and_eq_true] at hcg
   refine ⟨fun h0=>?_,fun j hj=>?_⟩
   ·have:=ZA (md:=md) (ops:=ops) hl1 (by simpa using hcg.1) (b:=fun j=>(dn j).isSome) (i:=g.idx) (by rw [hgn'];rfl)
    rw [h0] at this
    cases this
   ·have hjF:j∈F.map (·.idx):=by
     by_cases hjn:(dn j).isSome=true
     ·exact hdn j hjn
     ·by_cases hjm:j∈(F.map (·.idx)).filter (· != g.idx)
      ·exact (uK.1 hjm).1
      ·have h3:=K1 (md:=md) (ops:=ops) (l2:=Region.plus listed ((F.map (·.idx)).filter (· != g.idx))) hl1 (fun j=>Zz _ _ j) (fun k hk=>by
        rw [uw]
        refine uK.2 ⟨hdn k hk,?_⟩
        simp only [bne_iff_ne,ne_eq]
        rintro rfl
        rw [hgn'] at hk;cases hk) hj (by simpa [uw] using hjm)
       have h4:=hcg.2
       rw [WI] at h4
       simpa using h4 j h3
    refine maker listed a w und dn l1 act w1 fuel j zaD hl1 hdn hw ha hfit hdone hinj hbase hj hjF (fun dn' l1' act' w1' b1 b2 b3 b4 b5 b6 b7 b8=>?_)
    exact ihu dn' l1' act' w1' fuel b1 b2 b3 b4 b5 hfit b6 b7 b8 (by simp at rM ⊢;omega)
 | cons i r ih =>
  intro listed a w hc hk hnext und
  unfold Region.tQ at hc
  rw [Bool.and_eq_true] at hc
  obtain ⟨hc1,hc2⟩:=hc
  cases ho:ops[i]? with
  | none=>rw [ho] at hc1;simp at hc1
  | some o =>
   simp only [ho,Bool.and_eq_true] at hc1
   obtain ⟨⟨⟨⟨hg,hiF⟩,hir⟩,hap⟩,hkind⟩:=hc1
   have hgn:o.guard=none:=by simpa using hg
   have hwant:∀ x:Act,Region.wanted o (yielded ops x.tmps)=true:=fun x=>by simp [Region.wanted,hgn]
   have hiF':i∉F.map (·.idx):=by
    intro h
    rw [uw.2 h] at hiF
    cases hiF
   have hir':i∈Region.ready md ops listed:=by simpa using hir
   have hsel:∀ cs b,o.op≠.select cs b:=fun cs b=>Region.noSelect_spec hs i o cs b ho
   simp only [zN,ho] at hk
   by_cases hk0:o.nR=0
   ·-- it only computes or reads
    simp only [hk0,if_true,Bool.and_eq_true] at hk hkind
    obtain ⟨v,hv,hrest⟩:=hk
    intro dn l1 act w1 fuel zaD hl1 hdn hw ha hfit hdone hinj hbase rM
    obtain ⟨fuel,rfl⟩:∃ m,fuel=m+1:=⟨fuel - 1,by simp at rM;omega⟩
    obtain ⟨hDi,hD,hDu,hDf⟩:=Region.zaJ ho hkind.1 (fun d=>(Region.pO md ops listed i).contains d) (fun _=>rfl)
    have hl1':∀ j,l1.getD j true=false→listed.getD j true=false:=by
     intro j hj
     rw [vh,hl1] at hj
     rw [vh]
     cases hl:listed[j]? with
     | none=>rw [hl] at hj;simp at hj
     | some x=>rw [hl] at hj;simp at hj;simp [hj.1]
    refine vg (v:=v) ho (Region.noSelect_spec hs) (fun c a w hq=>absurd hq (hQ _ _ _)) (fun d=>(Region.pO md ops listed i).contains d) hDi hD fuel l1 act w1 ?_ ?_ ?_ ?_ ?_
    ·intro d hd
     have h1:=hDu d hd
     have h2:dn d=none:=by
      cases hx:dn d with
      | none=>rfl
      | some n =>
       have:=hdn d (by rw [hx];rfl)
       have h3:=hkind.2
       rw [WI] at h3
       have h4:=h3 d (by simpa using hd)
       rw [uw.2 this] at h4
       cases h4
     rw [vh,hl1,h2]
     rw [vh] at h1
     cases hl:listed[d]? with
     | none=>rw [hl] at h1;simp at h1
     | some x=>rw [hl] at h1;simpa using h1
    ·exact fun j oj hj hne hun hno=>hDf j oj hj hne (hl1' j hun) hno
    ·refine ZA (b:=fun j=>(dn j).isSome) hl1 hir' ?_
     cases hx:dn i with
     | none=>rfl
     | some n=>exact absurd (hdn i (by rw [hx];rfl)) hiF'
    ·refine .inl ⟨hwant _,fun w' hw'=>?_⟩
     rw [Xr (ops:=ops) ha o hsel (fun d hd zaK=>?_)]
     ·exact hv w' (hw.trans hw')
     ·obtain ⟨f,hf,rfl⟩:=ug.1 hd
      rw [WI] at hap
      have:=hap f.idx (ug.2 ⟨f,hf,rfl⟩)
      obtain ⟨_,of,h1,h2,_⟩:=hfit f hf
      rw [h1] at this
      exact (Oper.apart_spec this).1 _ h2 zaK
    ·refine ih (listed.setIfInBounds i true) (a.put o.dst v) w hc2 hrest hnext und dn (l1.setIfInBounds i true) (act.put o.dst v) w1 fuel zaD ?_ hdn hw (ha.put _ _) (fun f hf=>?_) (fun f hf n hn=>?_) hinj hbase (by simp at rM ⊢;omega)
     ·exact zbe hl1 i
     ·obtain ⟨_,h2⟩:=drops f hf o r i ho hap a w (hfit f hf)
      exact (hfit f hf).off (zW.refl w) (jL _ _ _) (fun t ht=>wK _ _ _ _ ht) h2
     ·obtain ⟨h1,h2⟩:=drops f hf o r i ho hap a w (hfit f hf)
      obtain ⟨d1,d2,d3⟩:=hdone f hf n hn
      exact ⟨d1,d2,by rw [← d3,uk,uk,wK _ _ _ _ h1]⟩
   ·-- a call
    simp only [hk0,if_false,Bool.and_eq_true] at hk hkind
    obtain ⟨hk1,zcX⟩:=hkind
    have hk1':o.nR=1:=by simpa using hk1
    have only:∀ (dn:Nat→Option Nat) (l1:Array Bool),(∀ j,l1[j]? = (listed[j]?).map (· || (dn j).isSome))→(∀ j,(dn j).isSome=true→j∈F.map (·.idx))→∀ j,j∈Region.ready md ops l1→j∈F.map (·.idx)∨j=i:=by
     intro dn l1 hl1 hdn j hj
     by_cases hjF:j∈F.map (·.idx)
     ·exact .inl hjF
     ·refine .inr ?_
      have h3:=K1 (md:=md) (ops:=ops) (l2:=Region.plus listed (F.map (·.idx))) hl1 (fun j=>Zz _ _ j) (fun k hk=>uw.2 (hdn k hk)) hj (by simpa using hjF)
      rw [WI] at zcX
      simpa using zcX j h3
    have here:∀ (dn:Nat→Option Nat) (l1:Array Bool),(∀ j,l1[j]? = (listed[j]?).map (· || (dn j).isSome))→(∀ j,(dn j).isSome=true→j∈F.map (·.idx))→i∈Region.ready md ops l1:=by
     intro dn l1 hl1 hdn
     refine ZA (b:=fun j=>(dn j).isSome) hl1 hir' ?_
     cases hx:dn i with
     | none=>rfl
     | some n=>exact absurd (hdn i (by rw [hx];rfl)) hiF'
    have call:∀ (und:Nat) (dn:Nat→Option Nat) (l1:Array Bool) (act:Act) (w1:World) (fuel:Nat),(F.filter (fun f=>(dn f.idx).isNone)).length=und→(∀ j,l1[j]? = (listed[j]?).map (· || (dn j).isSome))→(∀ j,(dn j).isSome=true→j∈F.map (·.idx))→zW w w1→jn (F.map (·.dst)) act a →
      (∀ f∈F,f.Fits P ops a w)→(∀ f∈F,∀ n,dn f.idx=some n→base≤n∧w1.heap[n]? = some f.obj∧act.tmps.getD f.dst undef=f.val n)→(∀ i j n,dn i=some n→dn j=some n→i=j)→base≤w1.heap.size→r.length+und+R≤fuel →
      wpOp P ops Q i (fun a' w'=>((ops[i]?).map Oper.nR≠some 2→zW w1 w')∧qJ P md ops Q fuel (l1.setIfInBounds i true) a' w') act w1:=by
     intro und dn l1 act w1 fuel zaD hl1 hdn hw ha hfit hdone hinj hbase rM
     have hk':=hk ((F.map (·.dst)).map fun d=>act.tmps.getD d undef) w1 (by simp) hw
     rw [← ha.over] at hk'
     unfold wpOp
     simp only [ho,hwant,if_true]
     refine .inl (Oper.wp_mono ?_ (Oper.zfC hk'))
     rintro a' w' ⟨⟨hsz,hoff⟩,zaQ,hrest⟩
     refine ⟨fun _=>zaQ,?_⟩
     refine ih (listed.setIfInBounds i true) a' w' hc2 hrest hnext und dn (l1.setIfInBounds i true) a' w' fuel zaD (zbe hl1 i) hdn (zW.refl w') (jn.refl _ _) (fun f hf=>?_) (fun f hf n hn=>?_) hinj (uj hbase zaQ.size) (by omega)
     ·obtain ⟨_,h2⟩:=drops f hf o r i ho hap a w (hfit f hf)
      refine zH.Fits.off (a:=act) (w:=w1) ?_ zaQ hsz hoff h2
      obtain ⟨h0,of,g1,g2,g3,g4,g5⟩:=hfit f hf
      refine ⟨by rw [ha.2.1];exact h0,of,g1,g2,g3,g4,fun w'' hw''=>?_⟩
      rw [Xr (ops:=ops) ha of g4 (fun d hd zaK=>zgp rX hfit hf hd g1 zaK)]
      exact g5 w'' (hw.trans hw'')
     ·obtain ⟨h1,h2⟩:=drops f hf o r i ho hap a w (hfit f hf)
      obtain ⟨d1,d2,d3⟩:=hdone f hf n hn
      have hlt:n < w1.heap.size:=(uJ.1 d2).1
      refine ⟨d1,(zaQ.block n hlt).trans d2,?_⟩
      rw [← d3,uk,uk,hoff _ h1]
    induction und with
    | zero =>
     intro dn l1 act w1 fuel zaD hl1 hdn hw ha hfit hdone hinj hbase rM
     obtain ⟨fuel,rfl⟩:∃ m,fuel=m+1:=⟨fuel - 1,by simp at rM;omega⟩
     refine ⟨fun h0=>?_,fun j hj=>?_⟩
     ·have:=here dn l1 hl1 hdn
      rw [h0] at this;cases this
     ·rcases only dn l1 hl1 hdn j hj with h | rfl
      ·exfalso
       obtain ⟨f,hf,rfl⟩:=ug.1 h
       have h0:=uG zaD
       have h1:f∈F.filter (fun f=>(dn f.idx).isNone):=uK.2 ⟨hf,by rw [zi8 hl1 hj];rfl⟩
       rw [h0] at h1;cases h1
      ·exact call 0 dn l1 act w1 fuel zaD hl1 hdn hw ha hfit hdone hinj hbase (by simp at rM ⊢;omega)
    | succ und ihu =>
     intro dn l1 act w1 fuel zaD hl1 hdn hw ha hfit hdone hinj hbase rM
     obtain ⟨fuel,rfl⟩:∃ m,fuel=m+1:=⟨fuel - 1,by simp at rM;omega⟩
     refine ⟨fun h0=>?_,fun j hj=>?_⟩
     ·have:=here dn l1 hl1 hdn
      rw [h0] at this;cases this
     ·rcases only dn l1 hl1 hdn j hj with h | rfl
      ·refine maker listed a w und dn l1 act w1 fuel j zaD hl1 hdn hw ha hfit hdone hinj hbase hj h (fun dn' l1' act' w1' b1 b2 b3 b4 b5 b6 b7 b8=>?_)
       exact ihu dn' l1' act' w1' fuel b1 b2 b3 b4 b5 hfit b6 b7 b8 (by simp at rM ⊢;omega)
      ·exact call (und+1) dn l1 act w1 fuel zaD hl1 hdn hw ha hfit hdone hinj hbase (by simp at rM ⊢;omega)
theorem Ye:∀ (n m:Nat) (listed:Array Bool) (a:Act) (w:World),n≤m→qJ P md ops Q n listed a w→qJ P md ops Q m listed a w
 | 0,0,_,_,_,_,h=>h
 | 0,m+1,_,_,_,_,h=>⟨fun _=>h.2,fun i hi=>by rw [h.1] at hi;cases hi⟩
 | n+1,0,_,_,_,hm,_=>absurd hm (by omega)
 | n+1,m+1,_,_,_,hm,h=>⟨h.1,fun i hi=>wpOp_mono (fun a w h'=>⟨h'.1,Ye n m _ a w (by omega) h'.2⟩) (h.2 i hi)⟩
def zO (P:Program) (ops:Array Oper) (k:Act→World→Prop):List Nat→Act→World→Prop
 | [],a,w=>k a w
 | i::r,a,w =>
  match ops[i]? with
  | none=>False
  | some o=>∃ v,(∀ w',zW w w'→(execOp a.eval o).run P w'=.ok (.value v) w')∧zO P ops k r (a.put o.dst v) w
def Region.tT (md:Region.Mode) (ops:Array Oper):List Nat→Array Bool→Bool
 | [],_=>true
 | i::r,listed =>
  (match ops[i]? with
   | none=>false
   | some o=>o.guard.isNone && o.nR==0 && (Region.ready md ops listed).contains i && Region.zaI md ops listed i) &&
  Region.tT md ops r (listed.setIfInBounds i true)
theorem Yf (hs:Region.noSelect ops=true) (hQ:∀ c a w,¬ Q (.panic c) a w) (k:Act→World→Prop) (n:Nat):∀ (s0:List Nat) (listed:Array Bool) (a:Act) (w:World),
  Region.tT md ops s0 listed=true→zO P ops k s0 a w→(∀ a w,k a w→qJ P md ops Q n (s0.foldl (fun l i=>l.setIfInBounds i true) listed) a w)→qJ P md ops Q (s0.length+n) listed a w
 | [],listed,a,w,_,h,hk=>by rw [List.length_nil,bH];exact hk a w h
 | i::r,listed,a,w,hc,h,hk=>by
  unfold Region.tT at hc
  rw [Bool.and_eq_true] at hc
  obtain ⟨hc1,hc2⟩:=hc
  cases ho:ops[i]? with
  | none=>rw [ho] at hc1;simp at hc1
  | some o =>
   simp only [ho,Bool.and_eq_true] at hc1
   simp only [zO,ho] at h
   obtain ⟨⟨⟨hg,hk0⟩,hir⟩,hfree⟩:=hc1
   obtain ⟨v,hv,hrest⟩:=h
   have hgn:o.guard=none:=by simpa using hg
   obtain ⟨D,hDi,hD,hDu,hDf⟩:=Region.rW ho hfree
   rw [uh,show r.length+1+n=r.length+n+1 by omega]
   exact vg ho (Region.noSelect_spec hs) (fun c a w hq=>absurd hq (hQ _ _ _)) D hDi hD (r.length+n) listed a w hDu hDf (by simpa using hir) (.inl ⟨by simp [Region.wanted,hgn],hv⟩)
    (Yf hs hQ k n r _ _ _ hc2 hrest hk)
def Region.zaR (md:Region.Mode) (ops:Array Oper) (s0 s1 s2 F:List Nat):Bool :=
 Region.noSelect ops && (s0.length+(s1.length+F.length+s2.length)==ops.size) && Region.tT md ops s0 (uS ops.size false) &&
 Region.tQ md ops F s1 (s0.foldl (fun l i=>l.setIfInBounds i true) (uS ops.size false)) &&
 Region.si md ops s2 (Region.plus (s1.foldl (fun l i=>l.setIfInBounds i true) (s0.foldl (fun l i=>l.setIfInBounds i true) (uS ops.size false))) F) && Region.zeM ops F && decide F.Nodup
theorem yn {id:Nat} {l:List Oper} {a:Act} {w:World} (s0 s1 s2:List Nat) (F:List zH) (hm:P.follows .mixedOrders=true)
  (hB:Region.zaR .any l.toArray s0 s1 s2 (F.map (·.idx))=true)
  (h:∀ w',w'=w.drew→zO P l.toArray (fun a w1=>(∀ f∈F,f.Fits P l.toArray a w1)∧zN P l.toArray (NoPanic Q) F w.heap.size (zE P l.toArray (NoPanic Q) s2) s1 a w1∧w.heap.size≤w1.heap.size) s0 a w'):(Code.region id l.toArray true).wp P Q a w:=by
 unfold Region.zaR at hB
 simp only [Bool.and_eq_true,beq_iff_eq,decide_eq_true_eq] at hB
 obtain ⟨⟨⟨⟨⟨⟨hs,hl⟩,h0⟩,hP⟩,hR⟩,rX⟩,hnd⟩:=hB
 refine wp_region_noPanic (wp_region_any hm (vK _ _ _ _ ?_))
 suffices key:qJ P .any l.toArray (NoPanic Q) (s0.length+(s1.length+(F.map (·.idx)).length+s2.length)) (uS l.toArray.size false) a w.drew by
  rw [hl] at key;exact key
 refine Yf hs (fun c a w hq=>hq) _ _ s0 _ a w.drew h0 (h _ rfl) ?_
 rintro a1 w1 ⟨hfit,hw,hbase⟩
 refine zbf hs (fun c a w hq=>hq) F w.heap.size _ s2.length hnd rX s1 _ a1 w1 hP hw (fun a w fuel hf hk=>?_) F.length (fun _=>none) _ a1 w1 _ ?_ ?_ ?_ (zW.refl _) (jn.refl _ _) hfit ?_ ?_ hbase ?_
 ·exact Ye _ _ _ _ _ hf (xu hs (fun c a w hq=>hq) s2 _ a w hR hk)
 ·congr 1
  exact dV.2 (fun _ _=>rfl)
 ·intro j;simp
 ·intro j hj;cases hj
 ·intro f _ n hn;cases hn
 ·intro i j n hi;cases hi
 ·simp
theorem yK {k:Act→World→Prop} {a:Act} {w:World} (h:k a w):zO P ops k [] a w:=h
theorem tN {k:Act→World→Prop} {i:Nat} {r:List Nat} {o:Oper} {tl:List Oper} {a:Act} {w:World} (hd:ops.toList.drop i=o::tl) (hk:o.nR=0) (hg:o.guard=none)
  (hh:∀ K:Act→Prop,(∀ a',zO P ops k r a' w→K a')→wpQuiet P ops (zd9 w) K [o] a):zO P ops k (i::r) a w:=by
 have h:=hh (fun a'=>zO P ops k r a' w) (fun _ h=>h)
 have ho:ops[i]? = some o:=by
  have:=congrArg (·[0]?) hd
  simpa using this
 have hw:Region.wanted o (yielded ops a.tmps)=true:=by simp [Region.wanted,hg]
 simp only [wpQuiet,hw,if_true] at h
 simp only [zO,ho]
 obtain ⟨v,hv,hn⟩:=h
 exact ⟨v,fun w' hw'=>xv hk (hv w' ⟨⟨w',hw'⟩,rfl⟩),hn⟩
theorem K2 {F:List zH} {base:Nat} {k:Act→World→Prop} {i:Nat} {r:List Nat} {o:Oper} {a:Act} {w:World} (ho:ops[i]? = some o) (hk:(o.nR==0)=false)
  (h:∀ (us:List Value) (w1:World),us.length=F.length→zW w w1→∀ K:Act→World→Prop,(∀ a' w',zW w1 w'→zN P ops Q F base k r a' w'→K a' w')→o.wp P (a.over (F.map (·.dst)) us) w1 K Q) :
  zN P ops Q F base k (i::r) a w:=by
 have hk':o.nR≠0:=by simpa using hk
 simp only [zN,ho,hk',if_false]
 exact fun us w1 hl hw=>h us w1 hl hw _ (fun _ _ h1 h2=>⟨h1,h2⟩)
def zH.var (i:Nat) (d:Tmp) (t:TypeId) (vs:List Value):zH:=⟨i,d,.cells vs.toArray t,fun n=>.pointer (some ⟨n,0,none⟩)⟩
@[go_sem,simp] theorem zjD (i:Nat) (d:Tmp) (t:TypeId) (vs:List Value):(zH.var i d t vs).dst=d:=rfl
@[go_sem,simp] theorem zjE (i:Nat) (d:Tmp) (t:TypeId) (vs:List Value) (n:Nat):(zH.var i d t vs).val n=.pointer (some ⟨n,0,none⟩):=rfl
@[go_sem,simp] theorem zjF (i:Nat) (d:Tmp) (t:TypeId) (vs:List Value):(zH.var i d t vs).obj=.cells vs.toArray t:=rfl
theorem zhq {a:Act} {w:World} (i:Nat) (d:Tmp) (t:TypeId) (vs:List Value) (z:Value) (o:Oper) (ho:ops[i]? = some o) (hop:o.op=.alloc t) (hd:o.dst=some d) (hg:o.guard=none) (hsz:d < a.tmps.size)
  (hz:(P.info? t).map (·.zero)=some (some z)) (hv:z.cells=vs.toArray):(zH.var i d t vs).Fits P ops a w:=by
 refine ⟨hsz,o,ho,hd,hg,by simp [hop],fun w' _=>?_⟩
 cases hq:P.info? t with
 | none=>rw [hq] at hz;cases hz
 | some x =>
  rw [hq] at hz
  have hx:x.zero=some z:=by simpa using hz
  simp [execOp,hop,Instr.alloc,zeroValue,typeInfo,hq,hx,newVar,newRow,hv,zH.var]
theorem len1 {α:Type} {l:List α} (h:l.length=1):∃ x,l=[x]:=by
 match l,h with
 | [x],_=>exact ⟨x,rfl⟩
theorem len2 {α:Type} {l:List α} (h:l.length=2):∃ x y,l=[x,y]:=by
 match l,h with
 | [x,y],_=>exact ⟨x,y,rfl⟩
theorem yZ {f:zH} {base:Nat} {k:Act→World→Prop} {a:Act} {w:World} (h:∀ (n:Nat) (w1:World),zW w w1→base≤n→w1.heap[n]? = some f.obj→k (a.put (some f.dst) (f.val n)) w1):zN P ops Q [f] base k [] a w:=by
 intro ns w1 hl hw hn _
 obtain ⟨n,rfl⟩:=len1 hl
 obtain ⟨h1,h2⟩:=hn 0 f n rfl rfl
 exact h n w1 hw h1 h2
theorem ZB {f g:zH} {base:Nat} {k:Act→World→Prop} {a:Act} {w:World} (h:∀ (n m:Nat) (w1:World),zW w w1→base≤n→base≤m→n≠m→w1.heap[n]? = some f.obj→w1.heap[m]? = some g.obj →
  k ((a.put (some f.dst) (f.val n)).put (some g.dst) (g.val m)) w1):zN P ops Q [f,g] base k [] a w:=by
 intro ns w1 hl hw hn hd
 obtain ⟨n,m,rfl⟩:=len2 hl
 obtain ⟨h1,h2⟩:=hn 0 f n rfl rfl
 obtain ⟨h3,h4⟩:=hn 1 g m rfl rfl
 refine h n m w1 hw h1 h3 (fun e=>?_) h2 h4
 subst e
 simp at hd
theorem zC {f:zH} {base:Nat} {k:Act→World→Prop} {i:Nat} {r:List Nat} {o:Oper} {a:Act} {w:World} (ho:ops[i]? = some o) (hk:(o.nR==0)=false)
  (h:∀ (u:Value) (w1:World),zW w w1→∀ K:Act→World→Prop,(∀ a' w',zW w1 w'→zN P ops Q [f] base k r a' w'→K a' w')→o.wp P (a.put (some f.dst) u) w1 K Q) :
  zN P ops Q [f] base k (i::r) a w:=K2 ho hk fun us w1 hl hw K hK=>by
 obtain ⟨u,rfl⟩:=len1 hl
 exact h u w1 hw K hK
theorem xD {f g:zH} {base:Nat} {k:Act→World→Prop} {i:Nat} {r:List Nat} {o:Oper} {a:Act} {w:World} (ho:ops[i]? = some o) (hk:(o.nR==0)=false)
  (h:∀ (u v:Value) (w1:World),zW w w1→∀ K:Act→World→Prop,(∀ a' w',zW w1 w'→zN P ops Q [f,g] base k r a' w'→K a' w')→o.wp P ((a.put (some f.dst) u).put (some g.dst) v) w1 K Q) :
  zN P ops Q [f,g] base k (i::r) a w:=K2 ho hk fun us w1 hl hw K hK=>by
 obtain ⟨u,v,rfl⟩:=len2 hl
 exact h u v w1 hw K hK
end
end Go
namespace Go.Proofs.YtamdifhibogdiaaGreatDoor
open RowKit Mem Ops Cells Oct
attribute [local irreducible] zE zN zO
theorem zq:Row Tryz.prog 62 2:=⟨by kernel_rfl,by kernel_rfl⟩
theorem zT:(Tryz.prog.info? 62).map (·.zero)=some (some (.agg #[L 0,L 0])):=by kernel_rfl
theorem YL (ao:Option Addr) (len cap:Nat) (bs:List UInt8) (w:World) (hlen:bs.length=len) (hc:len≤1099511627776) (hl:zr w ao (bs.map B)) :
  Calls Tryz.prog 306 #[.slice ao len cap] w fun e w'=>e=.returned (.agg #[L (pJ bs 0),L (pJ bs 8)])∧Below w.heap.size w w':=by
 have HLEN:=znq hlen
 have HL:=znq hl
 clear hlen hl
 go_enter Tryz.func306,Tryz.ntmps306
 go_wp2_with (refine ze 62 [L 0,L 0] _ rfl rfl zT rfl ?_)
 intro w0 hb0 hbel0
 have HB0:=znq hb0
 clear hb0
 go_wp2_with fail
 refine (WL ao len cap 0 bs _ HLEN.znr (by omega) hc (HL.znr.below hbel0)).mono ?_
 rintro e w1 ⟨rfl,hbel⟩
 go_wp2_with fail
 refine (WL ao len cap 8 bs _ HLEN.znr (by omega) hc (HL.znr.below (hbel0.trans (hbel.mono hbel0.size)))).mono ?_
 rintro e w2 ⟨rfl,mV⟩
 have hb2:=(HB0.znr.below hbel HB0.znr.lt).below mV (bI HB0.znr.lt hbel.size)
 have HB2:=znq hb2
 clear hb2
 go_wp2_with (refine HB2.znr.mM rfl rfl rfl (cs:=[L (pJ bs 0),L (pJ bs 8)]) rfl zq rfl rfl (by simp [Value.oneCell']) ?_)
 intro w3 hb3 ho3
 go_wp2
 refine hb3.result rfl rfl rfl zq rfl ⟨rfl,?_⟩
 exact zk ((hbel0.trans (hbel.mono hbel0.size)).trans (mV.mono (uj hbel0.size hbel.size))) ho3 (xc _)
theorem k5 (lo hi:UInt64) (w:World) :
  Calls Tryz.prog 28 #[.agg #[L lo,L hi]] w fun e w'=>e=.returned (.agg ((zz lo++zz hi).map B).toArray)∧Below w.heap.size w w':=by
 go_enter Tryz.func28,Tryz.ntmps28
 go_wp2_with (refine zh 62 (.tmp 0) [L lo,L hi] _ rfl rfl rfl rfl ?_)
 intro w1 hb0 nC
 go_wp2_with (refine ze 59 ((zf 16).map B) _ rfl rfl zj rfl ?_)
 intro w2 hb1 mV
 go_wp2_with (refine ze 59 ((zf 16).map B) _ rfl rfl zj rfl ?_)
 intro w3 hb2 mY
 have zfD:=((hb0.below mV hb0.lt).below mY (bI hb0.lt mV.size)).drew
 have hc0:=fun (x:zG w3.drew)=>(zfD.below x.later zfD.lt).cell 0 (L lo) rfl
 have hc1:=fun (x:zG w3.drew)=>(zfD.below x.later zfD.lt).cell 1 (L hi) rfl
 have HB1:=znq (hb1.below mY hb1.lt)
 have HB2:=znq hb2
 have hlt1:=bI hb0.lt (xc w1.heap.size)
 have hlt2:=hb1.lt
 have hlt3:=hb2.lt
 have nT:=znq (show Below w.heap.size w w3 from (nC.trans (mV.mono nC.size)).trans (mY.mono (uj nC.size mV.size)))
 clear hb0 hb1 hb2 zfD nC mV mY
 go_wp2_with fail
 refine yn [0,1,3,4] [2,5] [8,9] [zH.var 6 4 127 ((zf 8).map B),zH.var 7 5 127 ((zf 8).map B)] (by kernel_rfl) (by kernel_rfl) ?_
 rintro w4 rfl
 refine mq0 ?_
 refine yK ⟨?_,?_,xc _⟩
 ·intro f hf
  simp at hf
  rcases hf with rfl | rfl
  ·exact zhq _ _ _ _ _ _ rfl rfl rfl rfl (by simp) vJ rfl
  ·exact zhq _ _ _ _ _ _ rfl rfl rfl rfl (by simp) vJ rfl
 clear hc0 hc1
 refine xD rfl rfl (fun u v w5 hl5 K hK=>?_)
 go_simp
 refine (kH lo w5).mono ?_
 rintro e w6 ⟨rfl,mQ⟩
 go_simp
 refine hK _ _ mQ ?_
 clear hK K
 refine xD rfl rfl (fun u v w7 hl7 K hK=>?_)
 go_simp
 refine (kH hi w7).mono ?_
 rintro e w8 ⟨rfl,nG⟩
 go_simp
 refine hK _ _ nG ?_
 clear hK K
 refine ZB (fun n m w9 hl9 hn hm hnm hbn hbm=>?_)
 go_simp
 have hl:=(((hl5.trans mQ).trans hl7).trans nG).trans hl9
 have HB1:=znq (HB1.znr.drew.below hl HB1.znr.lt)
 have HB2:=znq (HB2.znr.drew.below hl HB2.znr.lt)
 have HBN:=znq (show Blk w9 n ((zf 8).map B) 127 from hbn)
 have HBM:=znq (show Blk w9 m ((zf 8).map B) 127 from hbm)
 have nT:=znq (nT.znr.drew.trans (Below.mono hl nT.znr.drew.size))
 clear hl hl5 mQ hl7 nG hl9 hbn hbm
 refine zp rfl rfl (by rfl) (fun K hK=>?_)
 refine HBN.znr.mZ rfl rfl rfl kM (by simp [zd]) (by simp [zK]) (zg _) (fun w10 hn10 rH=>hK _ _ ?_)
 clear hK K
 go_simp
 have HB1:=znq (HB1.znr.only rH (by omega))
 have HB2:=znq (HB2.znr.only rH (by omega))
 have HBM:=znq (HBM.znr.only rH (by omega))
 have HBN:=znq hn10
 have nT:=znq (zk nT.znr rH (by omega))
 refine zp rfl rfl (by rfl) (fun K hK=>?_)
 refine HBM.znr.mZ rfl rfl rfl kM (by simp [zd]) (by simp [zK]) (zg _) (fun w11 hm11 tV=>hK _ _ ?_)
 clear hK K
 go_simp
 have HB1:=znq (HB1.znr.only tV (by omega))
 have HB2:=znq (HB2.znr.only tV (by omega))
 have HBN:=znq (HBN.znr.only tV (by omega))
 have HBM:=znq hm11
 have nT:=znq (zk nT.znr tV (by omega))
 clear rH tV hn10 hm11
 refine zo ?_
 go_wp2_with fail
 refine zn [0,1,2] (by kernel_rfl) (by kernel_rfl) ?_
 rintro w12 rfl
 refine mqR ?_
 refine zp rfl rfl (by rfl) (fun K hK=>?_)
 refine HB2.znr.drew.rC 0 ((zz lo).map B) rfl rfl rfl Tryz.underlying22 zl (fun _=>rfl) HBN.znr.drew.lies (by simp [zK]) (by simp [zK,zd]) (zg _) (fun w13 zbA zaS=>hK _ _ ?_)
 clear hK K
 go_simp
 have HB1:=znq (HB1.znr.drew.only zaS (by omega))
 have HBM:=znq (HBM.znr.drew.only zaS (by omega))
 have HB2:=znq zbA
 have nT:=znq (zk nT.znr.drew zaS (by omega))
 clear zbA zaS
 refine zo ?_
 go_wp2_with fail
 refine zn [0,1,2] (by kernel_rfl) (by kernel_rfl) ?_
 rintro w14 rfl
 refine mqR ?_
 refine zp rfl rfl (by rfl) (fun K hK=>?_)
 refine HB2.znr.drew.rC 8 ((zz hi).map B) rfl rfl rfl Tryz.underlying22 zl (fun _=>rfl) HBM.znr.drew.lies (by simp [zK]) (by simp [splice,zK,zd]) (zg _) (fun w15 zbK zbL=>hK _ _ ?_)
 clear hK K
 go_simp
 have hrow:splice (splice ((zf 16).map B) 0 ((zz lo).map B)) 8 ((zz hi).map B)=(zz lo++zz hi).map B:=by
  simp [splice,zK,zf]
 rw [hrow] at zbK
 have hlen:((zz lo++zz hi).map B).length=16:=by simp [zK]
 have HB1:=znq (HB1.znr.drew.only zbL (by omega))
 have HB2:=znq zbK
 have nT:=znq (zk nT.znr.drew zbL (by omega))
 have HLEN:=znq hlen
 have zbM:=znq (zg (zz lo++zz hi))
 clear zbK zbL hlen hrow
 generalize hcs:(zz lo++zz hi).map B=cs at *
 have HCS:=znq hcs
 clear hcs
 refine zo ?_
 go_wp2_with (first | (refine HB2.znr.mP rfl rfl rfl zc HLEN.znr ?_) | (refine HB1.znr.mM rfl rfl rfl (cs:=cs) rfl zc (by simp [zd]) HLEN.znr zbM.znr ?_))
 intro w16 zaT zdJ
 go_wp2
 refine zaT.result rfl rfl rfl zc HLEN.znr ⟨by rw [HCS.znr],zk nT.znr zdJ (by omega)⟩
theorem zl0 (n size:Nat) (w:World) (hn:n≤1099511627776) (hs:1≤size) (hs2:size≤1099511627776) :
  Calls Tryz.prog 256 #[.int .i64 n,.int .i64 size] w fun e w'=>e=.returned (.int .i64 (j8 n size))∧w=w':=by
 have hm:(n:Int) % size < size:=Int.emod_lt_of_pos _ (by omega)
 have hm0:(0:Int)≤(n:Int) % size:=Int.emod_nonneg _ (by omega)
 have he:(((size:Int) - (n:Int) % size) % size)=(j8 n size:Int):=by
  unfold j8
  rw [lY,Int.ofNat_sub (Nat.le_of_lt (ma _ (by omega))),lY]
 have HE:=znq he
 clear he
 go_enter Tryz.func256,Tryz.ntmps256
 go_wp2
 go_ret
 exact ⟨by rw [HE.znr];rfl,rfl⟩
theorem yq:(Tryz.prog.info? 5).map (fun i=>(i.zero,i.size,i.bytes))=some (some (.int .u8 0),1,1):=by kernel_rfl
theorem zfE (n:Nat):List.replicate n (Value.int .u8 0)=(zf n).map B:=by simp [zf]
theorem j1 (a1 a2:Option Addr) (l1 l2 k1 k2:Nat) (b1 b2:List UInt8) (w:World) (hl1:b1.length=l1) (hl2:b2.length=l2) (hc1:l1≤1099511627776) (_:l2≤1099511627776) (hs1:zr w a1 (b1.map B)) (hs2:zr w a2 (b2.map B)) :
  Calls Tryz.prog 193 #[.slice a1 l1 k1,.slice a2 l2 k2] w (KS w 5 1 (min l1 l2) ((nX b1 b2).map B) id):=by
 obtain ⟨n,hn⟩:∃ n,n=min l1 l2:=⟨_,rfl⟩
 rw [← hn]
 have hmin:(if l2 < l1 then (l2:Int) else (l1:Int))=(n:Int):=by rw [hn];split <;> omega
 have hn1:n≤l1:=by omega
 have hn2:n≤l2:=by omega
 have hxl:n=min b1.length b2.length:=by rw [hl1,hl2];exact hn
 have HL1:=znq hl1
 have HL2:=znq hl2
 have HS1:=znq hs1
 have HS2:=znq hs2
 have HX:=znq hxl
 clear hn hl1 hl2 hs1 hs2 hxl
 go_enter Tryz.func193,Tryz.ntmps193
 go_wp2_with (at_make;refine jJ 22 5 (.int .u8 0) 1 n rfl rfl rfl rfl Tryz.underlying22 yq rfl ?h1 ?h2 (by omega) (by unfold maxLen;omega) ?_)
 case h1=>rfl
 case h2=>rfl
 intro w1 hb1 nC
 rw [zfE] at hb1
 have hlt1:=hb1.lt
 have HB1:=znq hb1
 have zaL:=znq nC
 clear hb1 nC
 go_wp2
 go_loopw [15] (fun i wr=>∃ (j:Nat) (l:List UInt8),j≤n∧i=.int .i64 j∧yg (fun k=>ya (at8 b1 k) (at8 b2 k)) n j l∧Blk wr w.heap.size (l.map B) 5∧Below w.heap.size w wr)
  (fun i _=>n - (intOf i).toNat)
 case atStart=>exact ⟨0,zf n,Nat.zero_le _,rfl,yg.zero (zd n),HB1.znr,zaL.znr⟩
 case round =>
  obtain ⟨j,l,hj,rfl,hF,hb,hbel⟩:=hrel
  by_cases hlt:j < n
  ·obtain ⟨x,hx⟩:=hF.at hlt
   have hy1:=q4 (b:=b1) (i:=j) (by rw [HL1.znr];omega)
   have hy2:=q4 (b:=b2) (i:=j) (by rw [HL2.znr];omega)
   obtain ⟨c1,o1,rfl,hc1⟩:=HS1.znr _ _ (zU hy1)
   obtain ⟨c2,o2,rfl,hc2⟩:=HS2.znr _ _ (zU hy2)
   have hc1:=fun (x:zG wr.drew)=>((hbel.drew.trans (Below.mono x.later hbel.size)).cell (p:=⟨c1,o1+j,none⟩) (block_lt_of_cell hc1)).trans hc1
   have hc2:=fun (x:zG wr.drew)=>((hbel.drew.trans (Below.mono x.later hbel.size)).cell (p:=⟨c2,o2+j,none⟩) (block_lt_of_cell hc2)).trans hc2
   have HB:=znq hb
   have HF:=znq hF
   clear hb hx hF hy1 hy2
   go_wp2_with fail
   refine zn [0,1,2,3,4,5,6,7,8,9,10,11,12] (by kernel_rfl) (by kernel_rfl) ?_
   rintro w2 rfl
   refine mqR ?_
   clear hc1 hc2
   refine zp rfl rfl (by rfl) (fun K hK=>?_)
   refine HB.znr.drew.nO (v:=B (ya (at8 b1 j) (at8 b2 j))) rfl rfl rfl zl rfl rfl (by rw [yf,HF.znr.1];omega) (fun w3 hb3 ho3=>hK _ _ ?_)
   clear hK K
   rw [ym] at hb3
   have mY:=zk hbel.drew ho3 (xc _)
   refine zo ?_
   go_wp2
   go_roundw
   case rel=>exact ⟨j+1,_,by omega,rfl,HF.znr.step hlt,hb3,mY⟩
   case measure=>simp [intOf];omega
  ·obtain rfl:j=n:=by omega
   have hown:=KY hb (xc _) (by rw [yf,hF.1]) (by unfold maxLen;omega)
   have e:=hF.all
   have HX2:=znq (show l=nX b1 b2 by rw [e,HX.znr];rfl)
   clear e
   go_wp2
   go_ret
   refine ⟨_,rfl,?_,hbel⟩
   rw [← HX2.znr]
   exact hown
end Go.Proofs.YtamdifhibogdiaaGreatDoor
namespace Go.Proofs.YtamdifhibogdiaaGreatDoor
open RowKit Mem Ops Cells Oct
attribute [local irreducible] zE zN zO
theorem WN (bs:List UInt8):splice ((zf 16).map B) 0 ((bs.take 16).map B)=(block bs).map B:=by
 unfold splice
 rw [cO,uo,bH,← dz,← uI]
 congr 1
 apply List.ext_getElem?
 intro i
 rw [List.getElem?_append,yf,Ku]
 by_cases h16:i < 16
 ·have hb:(block bs)[i]? = some (at8 bs i):=by simp [block,h16]
  rw [hb]
  by_cases hi:i < bs.length
  ·rw [if_pos (by omega),List.getElem?_take_of_lt h16,q4 hi]
  ·rw [if_neg (by omega),XS (by omega),dJ,zf,gF,if_pos (by omega)]
 ·rw [qc (l:=block bs) (by rw [zA];omega)]
  rw [if_neg (by omega),dJ,qc (by simp [zf];omega)]
theorem yQ (ao:Option Addr) (len cap:Nat) (bs:List UInt8) (w:World) (hlen:bs.length=len) (hl:zr w ao (bs.map B)) :
  Calls Tryz.prog 173 #[.slice ao len cap] w fun e w'=>e=.returned (.agg ((block bs).map B).toArray)∧Below w.heap.size w w':=by
 have hcl:((bs.take 16).map B).length=Nat.min len 16:=by rw [yf,Ku,hlen];exact Nat.min_comm _ _
 have hcf:0+((bs.take 16).map B).length≤((zf 16).map B).length:=by rw [hcl];simp [zf];exact Nat.min_le_right _ _
 have HCL:=znq hcl
 have HCF:=znq hcf
 have HL:=znq (show zr w ao ((bs.take 16).map B) by rw [List.map_take];exact hl.take 16)
 have HS:=znq (WN bs)
 have HO:=znq (zg (bs.take 16))
 clear hlen hl hcl hcf
 generalize (bs.take 16).map B=cs at *
 go_enter Tryz.func173,Tryz.ntmps173
 go_wp2_with (refine ze 59 ((zf 16).map B) _ rfl rfl zj rfl ?_)
 intro w1 hb1 nC
 go_wp2_with (refine ze 59 ((zf 16).map B) _ rfl rfl zj rfl ?_)
 intro w2 hb2 mV
 have HB1:=znq (hb1.below mV hb1.lt)
 have HB2:=znq hb2
 have hlt:=hb1.lt
 have nT:=znq (nC.trans (mV.mono nC.size))
 have HL:=znq (HL.znr.below nT.znr)
 clear hb1 hb2 nC mV
 go_wp2_with (refine HB2.znr.za6 0 cs rfl rfl rfl rfl Tryz.underlying22 zl (fun _=>rfl) HL.znr HCL.znr HCF.znr HO.znr ?_)
 intro w3 hb3 ho3
 rw [HS.znr] at hb3
 have HB1:=znq (HB1.znr.only ho3 (by omega))
 have HB2:=znq hb3
 have nT:=znq (zk nT.znr ho3 (by omega))
 have HLEN:=znq (show ((block bs).map B).length=16 by simp [zA])
 have zbM:=znq (zg (block bs))
 clear hb3 ho3 HS
 generalize hcs2:(block bs).map B=ds at *
 have HDS:=znq hcs2
 clear hcs2
 go_wp2_with (first | (refine HB2.znr.mP rfl rfl rfl zc HLEN.znr ?_) | (refine HB1.znr.mM rfl rfl rfl (cs:=ds) rfl zc (by simp [zd]) HLEN.znr zbM.znr ?_))
 intro w4 hb4 ho4
 go_wp2
 refine hb4.result rfl rfl rfl zc HLEN.znr ⟨by rw [HDS.znr],zk nT.znr ho4 (by omega)⟩
theorem XW (bs:List UInt8) (n:Nat) (hn:bs.length≤n):splice ((zf n).map B) 0 (bs.map B)=(bs++zf (n - bs.length)).map B:=by
 unfold splice
 rw [cO,uo,bH,yf,← dz,← uI]
 congr 2
 simp [zf]
theorem Zh (ao:Option Addr) (len cap size:Nat) (bs:List UInt8) (w:World) (hlen:bs.length=len) (hb:len≤1099511627776) (hs:1≤size) (hs2:size≤1099511627776) (hl:zr w ao (bs.map B)) :
  Calls Tryz.prog 231 #[.slice ao len cap,.int .i64 size] w (KS w 5 1 (len+j8 len size) ((kF bs size).map B) id):=by
 have hr:j8 len size < size:=ma _ (by omega)
 have hpl:kF bs size=bs++zf (len+j8 len size - bs.length):=by
  unfold kF zf
  rw [hlen,gJ]
 obtain ⟨n,hn⟩:∃ n,n=len+j8 len size:=⟨_,rfl⟩
 have hsum:(len:Int)+(j8 len size:Int)=(n:Int):=by omega
 have hn2:n≤2199023255552:=by omega
 have hln:len≤n:=by omega
 rw [← hn]
 rw [← hn] at hpl
 have HP:=znq hpl
 have HLEN:=znq hlen
 have HL:=znq hl
 have HO:=znq (zg bs)
 have HNN:=znq hn
 clear hpl hlen hl hn
 go_enter Tryz.func231,Tryz.ntmps231
 go_wp2_with fail
 refine (zl0 len size w hb hs hs2).mono ?_
 rintro e w1 ⟨rfl,rfl⟩
 go_wp2_with (at_make;refine jJ 22 5 (.int .u8 0) 1 n rfl rfl rfl rfl Tryz.underlying22 yq rfl rfl rfl (by omega) (by unfold maxLen;omega) ?_)
 intro w1 hb1 nC
 rw [zfE] at hb1
 have HB1:=znq hb1
 have HL1:=znq (HL.znr.below nC)
 clear hb1
 go_wp2_with (refine HB1.znr.za6 0 (bs.map B) rfl rfl rfl rfl Tryz.underlying22 zl (fun _=>rfl) HL1.znr (by rw [yf,HLEN.znr];exact (cz hln).symm) (by simp [zd,HLEN.znr];exact hln) HO.znr ?_)
 intro w2 hb2 ho2
 rw [XW _ _ (by rw [HLEN.znr];exact hln),← HP.znr] at hb2
 have hpll:((kF bs size).map B).length=n:=by rw [HP.znr];simp [zd,HLEN.znr];omega
 have hown:=KY hb2 (xc _) hpll (by unfold maxLen;omega)
 have hbel:=zk nC ho2 (xc _)
 clear hb2 ho2 hpll
 go_wp2
 go_ret
 exact ⟨_,rfl,hown,hbel⟩
theorem QE (ao:Option Addr) (len cap size:Nat) (mark:UInt8) (bs:List UInt8) (w:World) (hlen:bs.length=len) (hb:len≤1000000000000) (hs:1≤size) (hs2:size≤1099511627776) (hl:zr w ao (bs.map B)) :
  Calls Tryz.prog 264 #[.slice ao len cap,B mark,.int .i64 size] w (KS w 5 1 (len+1+j8 (len+1) size) ((qv bs mark size).map B) id):=by
 obtain ⟨n,hn⟩:∃ n,n=len+1:=⟨_,rfl⟩
 have hsum:(len:Int)+1=(n:Int):=by omega
 have hln:len < n:=by omega
 have hm:qv bs mark size=kF (bs++[mark]) size:=rfl
 rw [← hn,hm]
 have hbl:(bs++[mark]).length=n:=by simp [hlen,hn]
 have hset:((bs++zf (n - bs.length)).map B).set len (B mark)=(bs++[mark]).map B:=by
  rw [hlen,hn,gJ,ym]
  congr 1
  rw [List.set_append_right _ _ (by omega),hlen,l5]
  rfl
 have HSET:=znq hset
 have HBL:=znq hbl
 have HLEN:=znq hlen
 have HL:=znq hl
 have HO:=znq (zg bs)
 clear hlen hl hn hm hbl hset
 go_enter Tryz.func264,Tryz.ntmps264
 go_wp2_with (at_make;refine jJ 22 5 (.int .u8 0) 1 n rfl rfl rfl rfl Tryz.underlying22 yq rfl rfl rfl (by omega) (by unfold maxLen;omega) ?_)
 intro w1 hb1 nC
 rw [zfE] at hb1
 have HB1:=znq hb1
 have HL1:=znq (HL.znr.below nC)
 have zaL:=znq nC
 clear hb1 nC
 go_wp2_with (refine HB1.znr.za6 0 (bs.map B) rfl rfl rfl rfl Tryz.underlying22 zl (fun _=>rfl) HL1.znr (by rw [yf,HLEN.znr];exact (cz (by omega)).symm) (by simp [zd,HLEN.znr];omega) HO.znr ?_)
 intro w2 hb2 ho2
 rw [XW _ _ (by rw [HLEN.znr];omega)] at hb2
 have HB2:=znq hb2
 have zbB:=znq (zk zaL.znr ho2 (xc _))
 clear hb2 ho2
 have hlt:(bs++zf (n - bs.length))[len]? = some 0:=by
  rw [HLEN.znr,List.getElem?_append_right (by rw [HLEN.znr];omega),HLEN.znr,l5,zf,gF,if_pos (by omega)]
 have hc:=HB2.znr.cell len _ (zU hlt)
 have hf:=HB2.znr.free len
 clear hlt
 go_wp2_with fail
 have hb3:=HB2.znr.set len (B mark)
 rw [HSET.znr] at hb3
 have mY:=zbB.znr.setCell (p:=⟨w.heap.size,len,none⟩) (xc _) (B mark)
 refine (Zh _ n n size (bs++[mark]) _ HBL.znr (by omega) hs hs2 hb3.lies).mono ?_
 rintro e w4 ⟨v,rfl,hown,nD⟩
 go_wp2
 go_ret
 exact ⟨v,rfl,hown.mono mY.size,mY.trans (nD.mono mY.size)⟩
end Go.Proofs.YtamdifhibogdiaaGreatDoor

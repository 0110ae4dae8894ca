/-
  Texts of this claim, one behind the other.
-/
import Derived.Test.YtamdifhibogdiaaGreatDoorX3
import Derived.Test.YtamdifhibogdiaaGreatDoorX1
import Derived.Test.YtamdifhibogdiaaGreatDoorX2
import Derived.ScopeJumps
import Derived.WalkKit
import Derived.Lib.Hide
set_option linter.unusedVariables false
set_option linter.unusedSimpArgs false
set_option maxHeartbeats 16000000
set_option maxRecDepth 100000
open Array renaming getD→gU
open List renaming getElem?_cons_succ→dC,getElem?_eq_none→qc,getElem?_set_ne→uH,length_cons→uh,length_map→yf,length_set→Vo,range→uf,set_cons_succ→lF
open Nat renaming le_of_lt→dB,le_refl→xc,le_trans→uj,lt_of_lt_of_le→bI,lt_or_ge→bg
open UInt8 renaming toNat_ofNat_of_lt'→uY
namespace Go
def xK:Code→Nat→Option Code
 | .seq (.label l') y,l=>if l'==l then some y else xK y l
 | .seq x y,l=>if (findLabel x l).isNone then xK y l else none
 | _,_=>none
theorem Z0:∀ (c:Code) (l:Nat) (y:Code),xK c l=some y→findLabel c l=some (.seq .skip y):=by
 intro c l
 fun_induction xK c l with
 | case1 l' y0 l h=>intro y hy;simp at hy;subst hy;simp [findLabel,h]
 | case2 l' y0 l h ih=>intro y hy;simp [findLabel,h];exact ih y hy
 | case3 x y0 l hx h ih=>intro y hy;simp [findLabel,Option.isNone_iff_eq_none.1 h];exact ih y hy
 | case4=>intro y hy;cases hy
 | case5=>intro y hy;cases hy
def q9 (P:Program) (l:Nat) (J:Act→World→Prop) (Q:Exit→Act→World→Prop):Code→Act→World→Prop
 | .seq (.label l') y,a,w=>if l'==l then J a w else q9 P l J Q y a w
 | .seq x y,a,w=>x.wp P (Exit.then (q9 P l J Q y) (Exit.jump l J Q)) a w
 | _,_,_=>False
section
variable {P:Program} {a:Act} {w:World} {Q:Exit→Act→World→Prop}
theorem zgq (l:Nat) (J:Act→World→Prop):∀ (c y:Code),xK c l=some y→(∀ a w,J a w→y.wp P (Exit.jump l J Q) a w)→∀ a w,q9 P l J Q c a w→c.wp P (Exit.jump l J Q) a w:=by
 intro c
 fun_induction xK c l with
 | case1 l' y0 l h =>
  intro y hy hJ a w hp
  simp at hy;subst hy
  simp only [q9,h,if_true] at hp
  exact wp_seq (wp_label (hJ _ _ hp))
 | case2 l' y0 l h ih =>
  intro y hy hJ a w hp
  simp only [q9,h,Bool.false_eq_true,if_false] at hp
  exact wp_seq (wp_label (ih y hy hJ _ _ hp))
 | case3 x y0 l hx h ih =>
  intro y hy hJ a w hp
  have hp':x.wp P (Exit.then (q9 P l J Q y0) (Exit.jump l J Q)) a w:=by
   cases x <;> first | exact hp | exact absurd rfl (hx _)
  refine wp_seq (wp_mono hp' ?_)
  intro e a' w' hq
  cases e with
  | normal=>exact ih y hy hJ _ _ hq
  | _=>exact hq
 | case4=>intro y hy;cases hy
 | case5=>intro y hy;cases hy
theorem yd {c y:Code} (l:Nat) (J:Act→World→Prop) (μ:Act→World→Nat) (hf:xK c l=some y)
  (first:q9 P l J Q c a w)
  (pass:∀ a w,J a w→y.wp P (Exit.jump l (fun a' w'=>J a' w'∧μ a' w' < μ a w) Q) a w):(Code.scope c).wp P Q a w:=by
 have weak:∀ a w,J a w→y.wp P (Exit.jump l J Q) a w:=by
  intro a w hJ
  refine wp_mono (pass a w hJ) ?_
  intro e a' w' hq
  cases e with
  | goto l'=>exact ⟨hq.1,hq.2.1⟩
  | _=>exact hq
 refine wp_scope_jumps l J μ (Z0 c l y hf) (zgq l J c y hf weak a w first) ?_
 intro a' w' hJ
 exact wp_seq (wp_skip (pass a' w' hJ))
@[go_sem] theorem Exit.zdK (l:Nat) (J:Act→World→Prop) (a:Act) (w:World):Exit.jump l J Q .normal a w=Q .normal a w:=rfl
@[go_sem] theorem Exit.zfF (l:Nat) (J:Act→World→Prop) (id:Nat) (a:Act) (w:World):Exit.jump l J Q (.exit id) a w=Q (.exit id) a w:=rfl
@[go_sem] theorem Exit.nZ (l:Nat) (J:Act→World→Prop) (a:Act) (w:World):Exit.jump l J Q .ret a w=Q .ret a w:=rfl
@[go_sem] theorem Exit.zeN (l:Nat) (J:Act→World→Prop) (ch:List PanicEntry) (a:Act) (w:World):Exit.jump l J Q (.panic ch) a w=Q (.panic ch) a w:=rfl
end
end Go
namespace Go.Proofs.YtamdifhibogdiaaGreatDoor
open RowKit Mem Ops Cells Oct Gf
attribute [local irreducible] zE zN zO
theorem QF (a:UInt8) (w:World):Calls Tryz.prog 92 #[B a] w fun e w'=>e=.returned (B (dbl a))∧w=w':=by
 go_enter Tryz.func92,Tryz.ntmps92
 go_wp2
 go_ret
 exact ⟨rfl,rfl⟩
def zl1 (a b:UInt8) (w:World) (x:Act) (w':World):Prop :=
 ∃ (n:Nat) (a' b' s:UInt8),∃ u2 u3 u4 u6 u7 u8 u9 u10 u11 u12 u13 u14 u15 u16 u17 u18:Value,x={ tmps:=#[B a',B b',u2,u3,u4,B s,u6,u7,u8,u9,u10,u11,u12,u13,u14,u15,u16,u17,u18],defers:=[] }∧Hid (Zu n a' b' s=times a b)∧b'.toNat < 2 ^ n∧w=w'
theorem zi9 (a b:UInt8) (w:World):Calls Tryz.prog 130 #[B a,B b] w fun e w'=>e=.returned (B (times a b))∧w=w':=by
 go_enter Tryz.func130,Tryz.ntmps130
 go_wp2
 refine yd 0 (zl1 a b w) (fun a' _=>(intOf (a'.tmps.getD 1 undef)).toNat) rfl ?_ ?_
 ·simp only [q9]
  go_wp2
  exact ⟨8,a,b,0,_,_,_,_,_,_,_,_,_,_,_,_,_,_,_,_,rfl,rfl,lt8 b,rfl⟩
 ·rintro x w' ⟨n,a',b',s,u2,u3,u4,u6,u7,u8,u9,u10,u11,u12,u13,u14,u15,u16,u17,u18,rfl,HT,hb,rfl⟩
  by_cases h0:b'=0
  ·subst h0
   have HT:=znq ((WJ n a' s).symm.trans HT.znr)
   go_wp2
   go_ret
   exact ⟨by rw [← HT.znr];rfl,rfl⟩
  ·have h0':b'.toNat≠0:=fun h=>h0 (Vq h)
   have hd:((b'.toNat:Int)==0)=false:=beq_eq_false_iff_ne.2 (by omega)
   obtain ⟨n,rfl⟩:∃ m,n=m+1:=⟨n - 1,by cases n with | zero=>simp at hb;omega | succ n=>rfl⟩
   have hs:=zly b' n hb
   have hs2:(rF b' 1).toNat < b'.toNat:=by unfold rF;rw [uY (by have:=lt8 b';show _ < 256;omega)];omega
   have HT:=znq (show Zu n (dbl a') (rF b' 1) (ya s (QB a' (rE b' 1)))=times a b by have:=HT.znr;simpa [Zu,h0] using this)
   go_wp2_with fail
   refine (QF a' _).mono ?_
   rintro e w1 ⟨rfl,rfl⟩
   go_wp2
   refine wp_goto ⟨rfl,⟨n,_,_,_,_,_,_,_,_,_,_,_,_,_,_,_,_,_,_,_,rfl,HT,hs,rfl⟩,?_⟩
   simpa [intOf] using hs2
end Go.Proofs.YtamdifhibogdiaaGreatDoor
namespace Go
open RowKit
section
variable {P:Program} {ops:Array Oper} {Q:Exit→Act→World→Prop} {md:Region.Mode} {B:Nat}
def K3 (B:Nat) (P:Program) (md:Region.Mode) (ops:Array Oper) (Q:Exit→Act→World→Prop):Nat→Array Bool→Act→World→Prop
 | 0,listed,a,w=>Region.ready md ops listed=[]∧Q .normal a w
 | fuel+1,listed,a,w =>
  (Region.ready md ops listed=[]→Q .normal a w) ∧
  ∀ i∈Region.ready md ops listed,wpOp P ops Q i (fun a' w'=>Below B w w'∧K3 B P md ops Q fuel (listed.setIfInBounds i true) a' w') a w
theorem K4:∀ (fuel:Nat) (listed:Array Bool) (a:Act) (w:World),K3 B P md ops Q fuel listed a w→wpAny P md ops Q fuel listed a w
 | 0,_,_,_,h=>h
 | fuel+1,_,_,_,h=>⟨h.1,fun i hi=>wpOp_mono (fun a' w' h'=>K4 fuel _ a' w' h'.2) (h.2 i hi)⟩
theorem YieldsIf.zfG {o:Oper} {v:Value} {a:Act} {w w':World} (h:YieldsIf P ops (Below B w) o v a) (hw:Below B w w'):YieldsIf P ops (Below B w') o v a :=
 h.imp (fun ⟨h1,h2⟩=>⟨h1,fun x hx=>h2 x (hw.trans hx)⟩) id
theorem XX {i:Nat} {oi:Oper} {v:Value} (hi:ops[i]? = some oi) (hsel:∀ (j:Nat) (o:Oper) cs b,ops[j]? = some o→o.op≠.select cs b)
  (hQ:∀ c a w,Q (.panic c) (a.put oi.dst v) w→Q (.panic c) a w) (D:Nat→Bool) (hDi:D i=false)
  (hD:∀ d,D d=true→∃ od,ops[d]? = some od∧∃ e∈od.after,Region.binds md e=true∧(e.on=i∨D e.on=true)) :
  ∀ (fuel:Nat) (listed:Array Bool) (a:Act) (w:World),
   (∀ d,D d=true→listed.getD d true=false) →
   (∀ j oj,ops[j]? = some oj→j≠i→listed.getD j true=false→D j=false→oi.apart ops oj=true) →
   i∈Region.ready md ops listed→YieldsIf P ops (Below B w) oi v a →
   K3 B P md ops Q fuel (listed.setIfInBounds i true) (a.put oi.dst v) w→K3 B P md ops Q (fuel+1) listed a w:=by
 intro fuel
 induction fuel with
 | zero =>
  intro listed a w _ _ hr hy H
  refine ⟨fun h=>(by rw [h] at hr;cases hr),fun j hj=>?_⟩
  by_cases hji:j=i
  ·subst hji;exact hy.wpOp hi (Below.refl _ w) ⟨Below.refl _ w,H⟩
  ·have:=ready_mono hj hji
   rw [H.1] at this
   cases this
 | succ fuel ih =>
  intro listed a w hun hfree hr hy H
  refine ⟨fun h=>(by rw [h] at hr;cases hr),fun j hj=>?_⟩
  by_cases hji:j=i
  ·subst hji;exact hy.wpOp hi (Below.refl _ w) ⟨Below.refl _ w,H⟩
  ·have h1:=H.2 j (ready_mono hj hji)
   obtain ⟨hjun,oj,hoj,hall⟩:=mem_ready.1 hj
   have hget:∀ k,listed.getD k true=false→(listed[k]?).getD true=false:=fun k hk=>by
    rcases bg k listed.size with h' | h'
    ·simpa [gU,h'] using hk
    ·simp [gU,Nat.not_lt.2 h'] at hk
   have hDj:D j=false:=by
    cases hdj:D j with
    | false=>rfl
    | true =>
     obtain ⟨od,hod,e,he,hb,hon⟩:=hD j hdj
     rw [hoj] at hod
     cases hod
     have h1:=hall e he hb
     have h0:listed.getD e.on true=false:=by
      rcases hon with h | h
      ·rw [h];exact (mem_ready.1 hr).1
      ·exact hun _ h
     rcases bg e.on listed.size with h' | h'
     ·simp [h'] at h0 h1;rw [h0] at h1;cases h1
     ·simp [Array.getElem?_eq_none h'] at h1
   have hfj:=hfree j oj hoj hji hjun hDj
   have h2:=wpOp_putIf hoj hfj (fun cs b=>hsel i oi cs b hi) (fun cs b=>hsel j oj cs b hoj) hQ hy h1
   have hun':∀ d,D d=true→(listed.setIfInBounds j true).getD d true=false:=fun d hd=>by
    have hne:j≠d:=by rintro rfl;rw [hDj] at hd;cases hd
    rw [getD_set_ne true hne]
    exact hun d hd
   have hfree':∀ k ok,ops[k]? = some ok→k≠i→(listed.setIfInBounds j true).getD k true=false →
     D k=false→oi.apart ops ok=true:=fun k ok hk hki hun hno=>by
    refine hfree k ok hk hki ?_ hno
    by_cases hjk:j=k
    ·subst hjk;exact hjun
    ·rw [getD_set_ne true hjk] at hun;exact hun
   refine wpOp_mono (fun a' w' h3=>⟨h3.2.1,ih (listed.setIfInBounds j true) a' w' hun' hfree' (ready_mono hr (Ne.symm hji)) (h3.1.zfG h3.2.1) ?_⟩) h2
   rw [Array.setIfInBounds_comm _ _ hji]
   exact h3.2.2
def Region.zfH (md:Region.Mode) (ops:Array Oper) (listed:Array Bool) (i:Nat) (oi:Oper) (D:List Nat):Bool :=
 !D.contains i &&
 D.all (fun d=>!(listed.getD d true) && match ops[d]? with
  | some od=>od.after.any (fun e=>Region.binds md e && (e.on==i || D.contains e.on))
  | none=>false) &&
 (uf ops.size).all fun j=>j==i || listed.getD j true || D.contains j || match ops[j]? with
  | some oj=>oi.apart ops oj
  | none=>true
def Region.zdL (md:Region.Mode) (ops:Array Oper) (listed:Array Bool) (i:Nat):Bool :=
 match ops[i]? with
 | none=>false
 | some oi=>Region.zfH md ops listed i oi (Region.pO md ops listed i)
theorem Region.sP {i:Nat} {oi:Oper} {listed:Array Bool} (hi:ops[i]? = some oi) (h:Region.zdL md ops listed i=true) :
  ∃ D:Nat→Bool,D i=false∧(∀ d,D d=true→∃ od,ops[d]? = some od∧∃ e∈od.after,Region.binds md e=true∧(e.on=i∨D e.on=true)) ∧
   (∀ d,D d=true→listed.getD d true=false) ∧
   (∀ j oj,ops[j]? = some oj→j≠i→listed.getD j true=false→D j=false→oi.apart ops oj=true):=by
 unfold Region.zdL at h
 simp only [hi] at h
 generalize Region.pO md ops listed i=L at h
 unfold Region.zfH at h
 rw [Bool.and_eq_true,Bool.and_eq_true] at h
 obtain ⟨⟨h1,h2⟩,h3⟩:=h
 rw [List.all_eq_true] at h2 h3
 refine ⟨fun d=>L.contains d,by simpa using h1,fun d hd=>?_,fun d hd=>?_,fun j oj hj hne hun hnd=>?_⟩
 ·have:=h2 d (by simpa using hd)
  rw [Bool.and_eq_true] at this
  cases hod:ops[d]? with
  | none=>simp [hod] at this
  | some od =>
   have h4:=this.2
   simp only [hod] at h4
   obtain ⟨e,he,hb⟩:=Array.any_eq_true'.1 h4
   rw [Bool.and_eq_true,Bool.or_eq_true] at hb
   exact ⟨od,rfl,e,he,hb.1,hb.2.imp (fun h=>by simpa using h) id⟩
 ·have:=h2 d (by simpa using hd)
  rw [Bool.and_eq_true] at this
  simpa using this.1
 ·have hlt:j < ops.size:=(Array.getElem?_eq_some_iff.1 hj).1
  have:=h3 j (List.mem_range.2 hlt)
  have e1:(j==i)=false:=by simpa using hne
  simp only at hnd
  rw [e1,hun,hnd,Bool.false_or,Bool.false_or,Bool.false_or] at this
  simpa only [hj] using this
def Region.tX (md:Region.Mode) (ops:Array Oper):List (Nat×Bool)→Array Bool→Bool
 | [],listed=>Region.ready md ops listed==[]
 | (i,q)::r,listed =>
  (match ops[i]? with
   | none=>false
   | some _=>if q then (Region.ready md ops listed).contains i && Region.zdL md ops listed i else Region.ready md ops listed==[i]) &&
  Region.tX md ops r (listed.setIfInBounds i true)
def zM (B:Nat) (P:Program) (ops:Array Oper) (Q:Exit→Act→World→Prop):List (Nat×Bool)→Act→World→Prop
 | [],a,w=>Q .normal a w
 | (i,q)::r,a,w =>
  match ops[i]? with
  | none=>False
  | some o =>
   if Region.wanted o (yielded ops a.tmps)=true then
    (if q then ∃ v,(∀ w',Below B w w'→(execOp a.eval o).run P w'=.ok (.value v) w')∧zM B P ops Q r (a.put o.dst v) w
     else o.wp P a w (fun a' w'=>Below B w w'∧zM B P ops Q r a' w') Q)
   else zM B P ops Q r (a.put o.dst undef) w
theorem qP (hs:Region.noSelect ops=true) (hQ:∀ c a w,¬ Q (.panic c) a w):∀ (order:List (Nat×Bool)) (listed:Array Bool) (a:Act) (w:World),
  Region.tX md ops order listed=true→zM B P ops Q order a w→K3 B P md ops Q order.length listed a w
 | [],listed,a,w,hB,h=>by
  simp only [Region.tX,beq_iff_eq] at hB
  exact ⟨hB,h⟩
 | (i,q)::r,listed,a,w,hB,h=>by
  simp only [Region.tX,Bool.and_eq_true] at hB
  obtain ⟨hB1,hB2⟩:=hB
  cases ho:ops[i]? with
  | none=>simp [ho] at hB1
  | some o =>
   simp only [ho] at hB1
   simp only [zM,ho] at h
   cases q with
   | true =>
    simp only [if_true,Bool.and_eq_true] at hB1 h
    by_cases hw:Region.wanted o (yielded ops a.tmps)=true
    ·rw [if_pos hw] at h
     obtain ⟨v,hv,hr⟩:=h
     obtain ⟨D,hDi,hD,hDu,hDf⟩:=Region.sP ho hB1.2
     exact XX ho (Region.noSelect_spec hs) (fun c a w hq=>absurd hq (hQ _ _ _)) D hDi hD r.length listed a w hDu hDf (by simpa using hB1.1) (.inl ⟨hw,hv⟩)
      (qP hs hQ r _ _ _ hB2 hr)
    ·rw [if_neg hw] at h
     obtain ⟨D,hDi,hD,hDu,hDf⟩:=Region.sP ho hB1.2
     exact XX ho (Region.noSelect_spec hs) (fun c a w hq=>absurd hq (hQ _ _ _)) D hDi hD r.length listed a w hDu hDf (by simpa using hB1.1) (.inr ⟨by simpa using hw,rfl⟩)
      (qP hs hQ r _ _ _ hB2 h)
   | false =>
    simp only [Bool.false_eq_true,if_false,beq_iff_eq] at hB1 h
    refine ⟨fun h0=>(by rw [hB1] at h0;cases h0),fun j hj=>?_⟩
    rw [hB1] at hj
    obtain rfl:j=i:=by simpa using hj
    unfold wpOp
    simp only [ho]
    by_cases hw:Region.wanted o (yielded ops a.tmps)=true
    ·rw [if_pos hw] at h ⊢
     refine .inl (Oper.wp_mono ?_ h)
     intro a' w' h'
     refine ⟨h'.1,qP hs hQ r _ _ _ hB2 h'.2⟩
    ·rw [if_neg hw] at h ⊢
     exact ⟨Below.refl _ w,qP hs hQ r _ _ _ hB2 h⟩
theorem jM {id:Nat} {l:List Oper} {a:Act} {w:World} (B:Nat) (order:List (Nat×Bool)) (hm:P.follows .mixedOrders=true)
  (hB:(Region.noSelect l.toArray && (order.length==l.length) && Region.tX .any l.toArray order (Array.replicate l.length false))=true)
  (h:∀ w',w'=w.drew→zM B P l.toArray (NoPanic Q) order a w'):(Code.region id l.toArray true).wp P Q a w:=by
 simp only [Bool.and_eq_true,beq_iff_eq] at hB
 obtain ⟨⟨hs,hl⟩,hB⟩:=hB
 refine wp_region_noPanic (wp_region_any hm (K4 (B:=B) _ _ _ _ ?_))
 have:=qP (B:=B) (P:=P) (Q:=NoPanic Q) hs (fun c a w hq=>hq) order _ a w.drew hB (h _ rfl)
 rw [hl] at this
 exact this
theorem Zi {a:Act} {w:World} (h:Q .normal a w):zM B P ops (NoPanic Q) [] a w:=h
theorem xW {i:Nat} {r:List (Nat×Bool)} {o:Oper} {a:Act} {w:World} (ho:ops[i]? = some o) (hw:Region.wanted o (yielded ops a.tmps)=true)
  (h:∀ K:Act→World→Prop,(∀ a' w',Below B w w'→zM B P ops Q r a' w'→K a' w')→o.wp P a w K Q):zM B P ops Q ((i,false)::r) a w:=by
 simp only [zM,ho,hw,if_true,Bool.false_eq_true,if_false]
 exact h _ fun _ _ h1 h2=>⟨h1,h2⟩
structure QG (B:Nat) (w:World) where
 val:World
 below:Below B w val
instance (B:Nat) (w:World):Nonempty (QG B w):=⟨⟨w,Below.refl _ w⟩⟩
abbrev zl2 (B:Nat) (w:World):World→Prop:=fun w'=>∃ x:QG B w,w'=x.val
theorem zbR {i:Nat} {r:List (Nat×Bool)} {o:Oper} {tl:List Oper} {a:Act} {w:World} (hd:ops.toList.drop i=o::tl) (hk:o.nR=0)
  (hh:∀ K:Act→Prop,(∀ a',zM B P ops Q r a' w→K a')→wpQuiet P ops (zl2 B w) K [o] a):zM B P ops Q ((i,true)::r) a w:=by
 have h:=hh (fun a'=>zM B P ops Q r a' w) (fun _ h=>h)
 have ho:ops[i]? = some o:=by
  have:=congrArg (·[0]?) hd
  simpa using this
 simp only [wpQuiet] at h
 simp only [zM,ho,if_true]
 by_cases hw:Region.wanted o (yielded ops a.tmps)=true
 ·rw [if_pos hw] at h ⊢
  obtain ⟨v,hv,hn⟩:=h
  exact ⟨v,fun w' hw'=>xv hk (hv w' ⟨⟨w',hw'⟩,rfl⟩),hn⟩
 ·rw [if_neg hw] at h ⊢
  exact h
theorem zno {i:Nat} {r:List (Nat×Bool)} {o:Oper} {tl:List Oper} {a:Act} {w:World} (hd:ops.toList.drop i=o::tl) (hk:o.nR=0)
  (hh:∀ K:Act→Prop,(∀ a',zM B P ops Q r a' w→K a')→wpQuiet P ops (zd9 w) K [o] a):zM B P ops Q ((i,false)::r) a w:=by
 have h:=hh (fun a'=>zM B P ops Q r a' w) (fun _ h=>h)
 have ho:ops[i]? = some o:=by
  have:=congrArg (·[0]?) hd
  simpa using this
 simp only [wpQuiet] at h
 simp only [zM,ho,Bool.false_eq_true,if_false]
 by_cases hw:Region.wanted o (yielded ops a.tmps)=true
 ·rw [if_pos hw] at h ⊢
  obtain ⟨v,hv,hn⟩:=h
  unfold Oper.wp
  rw [xv hk (hv w ⟨⟨w,zW.refl w⟩,rfl⟩),Oper.upon_value]
  exact ⟨Below.refl _ w,hn⟩
 ·rw [if_neg hw] at h ⊢
  exact h
end
end Go
namespace Go.Proofs.YtamdifhibogdiaaGreatDoor
open RowKit Mem Ops Cells Oct Gf
attribute [local irreducible] zE zN zO zM
theorem and7:∀ k:Fin 8,bits .and .u64 ((k.val:Nat):Int) 7=((k.val:Nat):Int):=by decide
theorem zl3 (x:UInt8) (k:Nat) (hk:k < 8) (w:World):Calls Tryz.prog 131 #[B x,.int .i64 k] w fun e w'=>e=.returned (B (rot8 x k))∧w=w':=by
 have h7:=and7 ⟨k,hk⟩
 simp only at h7
 go_enter Tryz.func131,Tryz.ntmps131
 go_wp2
 go_ret
 exact ⟨rfl,rfl⟩
theorem zja (i:UInt8) (w:World):Calls Tryz.prog 94 #[B i] w fun e w'=>e=.returned (B (box i))∧w=w':=by
 go_enter Tryz.func94,Tryz.ntmps94
 go_wp2
 go_loopw [3,5] (fun s c wr=>∃ k:Nat,k≤5∧c=.int .i64 k∧s=B (zi6 i k)∧w=wr) (fun _ c _=>5 - (intOf c).toNat)
 case atStart=>exact ⟨0,by omega,rfl,rfl,rfl⟩
 case round =>
  obtain ⟨k,hk,rfl,rfl,rfl⟩:=hrel
  by_cases hlt:k < 5
  ·go_wp2_with fail
   refine (zl3 i k (by omega) _).mono ?_
   rintro e w1 ⟨rfl,rfl⟩
   go_wp2
   go_roundw
   case rel=>exact ⟨k+1,by omega,rfl,rfl,by trivial⟩
   case measure=>simp [intOf];omega
  ·obtain rfl:k=5:=by omega
   go_wp2
   go_ret
   exact ⟨rfl,by trivial⟩
theorem zjb (p:Nat) (l:List UInt8) (a b:UInt8) (w:World) (hl:l.length=512) (hb:Blk w p (l.map B) 165) :
  Calls Tryz.prog 93 #[.pointer (some ⟨p,0,none⟩),B a,B b] w fun e w'=>e=.returned (.tuple #[])∧Blk w' p ((zfB l a b).map B) 165∧Only p w w':=by
 have ha8:=lt8 a
 have hb8:=lt8 b
 have HB:=znq hb
 have HL:=znq hl
 clear hb hl
 go_enter Tryz.func93,Tryz.ntmps93
 go_wp2_with fail
 refine jM p [(0,true),(1,true),(2,true),(3,true),(4,true),(5,true),(6,true),(7,true),(8,true),(10,true),(11,true),(9,false),(12,false),(13,false)] (by kernel_rfl) (by kernel_rfl) ?_
 rintro w1 rfl
 refine mqB ?_
 refine xW rfl (by rfl) (fun K hK=>?_)
 refine HB.znr.drew.nO (v:=B b) rfl rfl rfl zl rfl rfl (by rw [yf,HL.znr];omega) (fun w3 hb3 ho3=>hK _ _ (zk (Below.refl _ _) ho3 (xc _)) ?_)
 clear hK K
 rw [ym] at hb3
 have HB3:=znq hb3
 have HO3:=znq ho3
 clear hb3 ho3
 go_simp
 refine mqB ?_
 refine xW rfl (by rfl) (fun K hK=>?_)
 refine HB3.znr.nO (v:=B a) rfl rfl rfl zl rfl rfl (by rw [yf,Vo,HL.znr];omega) (fun w4 hb4 ho4=>hK _ _ (zk (Below.refl _ _) ho4 (xc _)) ?_)
 clear hK K
 rw [ym] at hb4
 refine Zi ?_
 go_wp2
 go_end0
 exact ⟨rfl,hb4,(show Only p w w3 from ⟨HO3.znr.os,HO3.znr.tape,HO3.znr.output,HO3.znr.size,HO3.znr.block⟩).trans ho4⟩
theorem zjc (p:Nat) (l:List UInt8) (a:UInt8) (w:World) (hl:l.length=512) (hb:Blk w p (l.map B) 165) :
  Calls Tryz.prog 91 #[.pointer (some ⟨p,0,none⟩),B a] w fun e w'=>e=.returned (B (at8 l a.toNat))∧w=w':=by
 have ha8:=lt8 a
 have hc:=hb.cell a.toNat _ (zU (q4 (b:=l) (i:=a.toNat) (by omega)))
 clear hb hl
 go_enter Tryz.func91,Tryz.ntmps91
 go_wp2
 go_ret
 exact ⟨rfl,by trivial⟩
theorem zl4 (p:Nat) (l:List UInt8) (a:UInt8) (w:World) (hl:l.length=512) (hb:Blk w p (l.map B) 165) :
  Calls Tryz.prog 295 #[.pointer (some ⟨p,0,none⟩),B a] w fun e w'=>e=.returned (B (at8 l (256+a.toNat)))∧w=w':=by
 have ha8:=lt8 a
 have hc:=hb.cell (256+a.toNat) _ (zU (q4 (b:=l) (i:=256+a.toNat) (by omega)))
 clear hb hl
 go_enter Tryz.func295,Tryz.ntmps295
 go_wp2
 go_ret
 exact ⟨rfl,by trivial⟩
end Go.Proofs.YtamdifhibogdiaaGreatDoor
namespace Go.Proofs.YtamdifhibogdiaaGreatDoor
open RowKit Mem Ops Cells Oct Gf
attribute [local irreducible] zE zN zO zM
theorem WO:(Tryz.prog.info? 162).map (·.zero)=some (some (.agg ((zf 255).map B).toArray)):=by kernel_rfl
theorem KF:(Value.agg Tryz.zeroCells165).cells=((zf 512).map B).toArray:=by kernel_rfl
theorem zfs (w:World):Calls Tryz.prog 52 #[] w fun e w'=>∃ p,e=.returned (.pointer (some ⟨p,0,none⟩))∧w.heap.size≤p∧Blk w' p (boxes.map B) 165∧Below w.heap.size w w':=by
 go_enter Tryz.func52,Tryz.ntmps52
 go_wp2_with (refine ze 162 ((zf 255).map B) _ rfl rfl WO rfl ?_)
 intro w1 hb1 nC
 have HB1:=znq hb1
 have zaL:=znq nC
 have hlt1:=hb1.lt
 clear hb1 nC
 go_wp2
 go_loopw [2,6] (fun e c wr=>∃ (k:Nat) (l:List UInt8),k≤255∧c=.int .i64 k∧e=B (Ya k)∧yg Ya 255 k l∧Blk wr w.heap.size (l.map B) 162∧Below w.heap.size w wr) (fun _ c _=>255 - (intOf c).toNat)
 case atStart=>exact ⟨0,zf 255,by omega,rfl,rfl,yg.zero (zd _),HB1.znr,zaL.znr⟩
 case round =>
  obtain ⟨k,l,hk,rfl,rfl,hF,hb,hbel⟩:=hrel
  by_cases hlt:k < 255
  ·obtain ⟨x,hx⟩:=hF.at hlt
   have hc:=hb.cell k _ (zU hx)
   have hf:=hb.free k
   have HB:=znq hb
   have HF:=znq hF
   clear hb hx hF
   go_wp2_with fail
   refine (QF (Ya k) _).mono ?_
   rintro e w2 ⟨rfl,rfl⟩
   go_wp2
   go_roundw
   case rel=>exact ⟨k+1,_,by omega,rfl,rfl,HF.znr.step hlt,ym _ _ _ ▸ HB.znr.set k _,hbel.setCell (by simp) _⟩
   case measure=>simp [intOf];omega
  ·obtain rfl:k=255:=by omega
   have HBP:=znq hb
   have HPW:=znq (show ∀ i,i < 255→l[i]? = some (Ya i) from hF.2)
   have hltp:=hb.lt
   clear hb hF
   go_wp2_with (refine zh 165 _ ((zf 512).map B) _ rfl rfl rfl KF ?_)
   intro w3 hb3 mY
   have HBP:=znq (HBP.znr.below mY HBP.znr.lt)
   have HB3:=znq hb3
   have nT:=znq (hbel.trans (mY.mono hbel.size))
   clear hb3 mY
   generalize hq:wr.heap.size=q at *
   have hwq:w.heap.size < q:=by omega
   have HQ:=znq hq
   clear hq
   go_wp2_with fail
   refine (zja 0 _).mono ?_
   rintro e w4 ⟨rfl,rfl⟩
   go_wp2_with fail
   refine (zjb q (zf 512) 0 (box 0) _ (zd _) HB3.znr).mono ?_
   rintro e w5 ⟨rfl,hb5,ho5⟩
   have HBP:=znq (HBP.znr.only ho5 (by omega))
   have nT:=znq (zk nT.znr ho5 (by omega))
   have HB5:=znq hb5
   clear hb5 ho5 HB3
   have zjG:w.heap.size < q:=by have:=HB5.znr.lt;have:=HQ.znr;omega
   go_wp2
   go_loopw [22] (fun c wr=>∃ k:Nat,k≤255∧c=.int .i64 k∧Blk wr w.heap.size (l.map B) 162∧Blk wr q ((Yb k).map B) 165∧Below w.heap.size w wr) (fun c _=>255 - (intOf c).toNat)
   case atStart=>exact ⟨0,by omega,rfl,HBP.znr,HB5.znr,nT.znr⟩
   case round =>
    obtain ⟨k,hk,rfl,hbp,hb,hbel⟩:=hrel
    by_cases hlt:k < 255
    ·have hc1:=fun (x:QG q wr.drew)=>(hbp.drew.below x.below zjG).cell k _ (zU (HPW.znr k hlt))
     have hc2:∀ (x:QG q wr.drew),x.val.cell? ⟨w.heap.size,(-(k:Int) % 255).toNat,none⟩=some (B (Ya ((255 - k) % 255))):=by
      intro x
      rw [show (-(k:Int) % 255).toNat=(255 - k) % 255 by omega]
      exact (hbp.drew.below x.below zjG).cell ((255 - k) % 255) _ (zU (HPW.znr ((255 - k) % 255) (Nat.mod_lt _ (by omega))))
     have HBP:=znq hbp
     have HB:=znq hb
     clear hbp hb
     go_wp2_with fail
     refine jM q [(0,true),(1,true),(2,true),(3,true),(4,true),(5,true),(6,true),(7,true),(8,true),(9,false),(10,false)] (by kernel_rfl) (by kernel_rfl) ?_
     rintro w6 rfl
     refine mqB ?_
     clear hc1 hc2
     refine xW rfl (by rfl) (fun K hK=>?_)
     go_simp
     refine (zja _ _).mono ?_
     rintro e w7 ⟨rfl,rfl⟩
     go_simp
     refine hK _ _ (Below.refl _ _) ?_
     clear hK K
     refine xW rfl (by rfl) (fun K hK=>?_)
     go_simp
     refine (zjb q (Yb k) (Ya k) (box (Ya ((255 - k) % 255))) _ (Y6 k) HB.znr.drew).mono ?_
     rintro e w8 ⟨rfl,hb8,ho8⟩
     go_simp
     refine hK _ _ (zk (Below.refl _ _) ho8 (xc _)) ?_
     clear hK K
     refine Zi ?_
     have hbp8:=HBP.znr.drew.only ho8 (by omega)
     have nG:=zk hbel.drew ho8 (by omega)
     have HB8:=znq (show Blk w8 q ((Yb (k+1)).map B) 165 from hb8)
     clear hb8 ho8
     go_wp2
     go_roundw
     case rel=>exact ⟨k+1,by omega,rfl,hbp8,HB8.znr,nG⟩
     case measure=>simp [intOf];omega
    ·obtain rfl:k=255:=by omega
     have HB:=znq hb
     clear hb
     go_wp2
     go_ret
     exact ⟨q,rfl,dB zjG,HB.znr,hbel⟩
end Go.Proofs.YtamdifhibogdiaaGreatDoor
namespace Go.Proofs.YtamdifhibogdiaaGreatDoor
open RowKit Mem Ops Cells Oct Gf Trn
attribute [local irreducible] zE zN zO zM
theorem Xs (row column:Nat) (w:World) (h1:row < 4) (h2:column < 4):Calls Tryz.prog 229 #[.int .i64 row,.int .i64 column] w fun e w'=>e=.returned (.int .i64 (ye row column))∧w=w':=by
 have hs:(row:Int)+4*(((column:Int)+row) % 4)=((ye row column:Nat):Int):=by unfold ye;omega
 have HS:=znq hs
 clear hs
 go_enter Tryz.func229,Tryz.ntmps229
 go_wp2
 go_ret
 exact ⟨by rw [← HS.znr];rfl,rfl⟩
theorem V1 (by':List UInt8) (row:Nat) (a:UInt8) (w:World) (hl:by'.length=4) (h1:row < 4):Calls Tryz.prog 90 #[.agg (by'.map B).toArray,.int .i64 row,B a] w fun e w'=>e=.returned (W (Xn by' row a))∧Below w.heap.size w w':=by
 go_enter Tryz.func90,Tryz.ntmps90
 go_wp2_with (refine zh 161 _ (by'.map B) _ rfl rfl rfl rfl ?_)
 intro w1 hb1 nC
 have HB1:=znq hb1
 have HL:=znq hl
 clear hb1 hl
 go_wp2
 go_loopw [7,9] (fun n c wr=>∃ r:Nat,r≤4∧c=.int .i64 r∧n=W (Yc by' row a r)∧w1=wr) (fun _ c _=>4 - (intOf c).toNat)
 case atStart=>exact ⟨0,by omega,rfl,rfl,rfl⟩
 case round =>
  obtain ⟨r,hr,rfl,rfl,rfl⟩:=hrel
  by_cases hlt:r < 4
  ·obtain ⟨x,hx⟩:∃ x,x=at8 by' ((row+4 - r) % 4):=⟨_,rfl⟩
   have hc:=HB1.znr.cell ((row+4 - r) % 4) _ (zU (q4 (b:=by') (i:=(row+4 - r) % 4) (by rw [HL.znr];omega)))
   rw [← hx,show (row+4 - r) % 4=(((row:Int) - r) % 4).toNat by omega] at hc
   have HX:=znq (show ziA (Yc by' row a r) (Q3 (KW (times x a)) (8*r))=Yc by' row a (r+1) by rw [hx];rfl)
   clear hx
   go_wp2_with fail
   refine (zi9 x a _).mono ?_
   rintro e w2 ⟨rfl,rfl⟩
   go_wp2
   go_roundw
   case rel=>exact ⟨r+1,by omega,rfl,by rw [← HX.znr],by trivial⟩
   case measure=>simp [intOf];omega
  ·obtain rfl:r=4:=by omega
   go_wp2
   go_ret
   exact ⟨rfl,nC⟩
theorem WQ (a b:List UInt8) (w:World) (ha:a.length=16) (hb:b.length=16):Calls Tryz.prog 230 #[.agg (a.map B).toArray,.agg (b.map B).toArray] w fun e w'=>e=.returned (.agg ((both a b).map B).toArray)∧Below w.heap.size w w':=by
 have HLA:=znq ha
 have HLB:=znq hb
 have hfin:∀ l:List UInt8,yg (fun i=>ya (at8 a i) (at8 b i)) 16 16 l→l=both a b:=fun l h=>h.all
 have zbN:=znq hfin
 clear ha hb hfin
 go_enter Tryz.func230,Tryz.ntmps230
 go_wp2_with (refine zh 59 _ (a.map B) _ rfl rfl rfl rfl ?_)
 intro w1 hb1 nC
 go_wp2_with (refine zh 59 _ (b.map B) _ rfl rfl rfl rfl ?_)
 intro w2 hb2 mV
 go_wp2_with (refine ze 59 ((zf 16).map B) _ rfl rfl zj rfl ?_)
 intro w3 hb3 mY
 have hlt1:=hb1.lt
 have hlt2:=hb2.lt
 have hlt3:=hb3.lt
 have HBA:=znq ((hb1.below mV hb1.lt).below mY (by omega))
 have HBB:=znq (hb2.below mY hb2.lt)
 have HBR:=znq hb3
 have nT:=znq ((nC.trans (mV.mono nC.size)).trans (mY.mono (uj nC.size mV.size)))
 clear hb1 hb2 hb3 nC mV mY
 go_wp2
 go_loopw [6] (fun c wr=>∃ (j:Nat) (l:List UInt8),j≤16∧c=.int .i64 j∧l.length=16∧(∀ i,i < j→l[i]? = some (ya (at8 a i) (at8 b i)))∧(∀ i,j≤i→l[i]? = a[i]?)∧Blk wr w.heap.size (l.map B) 59∧Blk wr w1.heap.size (b.map B) 59∧Blk wr w2.heap.size ((zf 16).map B) 59∧Below w.heap.size w wr) (fun c _=>16 - (intOf c).toNat)
 case atStart=>exact ⟨0,a,by omega,rfl,HLA.znr,fun i hi=>absurd hi (by omega),fun i _=>rfl,HBA.znr,HBB.znr,HBR.znr,nT.znr⟩
 case round =>
  obtain ⟨j,l,hj,rfl,hll,hl1,hl2,hba,hbb,hbr,hbel⟩:=hrel
  by_cases hlt:j < 16
  ·have hx:l[j]? = some (at8 a j):=by rw [hl2 j (xc _)];exact q4 (by rw [HLA.znr];omega)
   have hc1:=fun (x:zG wr.drew)=>(hba.drew.below x.later hba.lt).cell j _ (zU hx)
   have hc2:=fun (x:zG wr.drew)=>(hbb.drew.below x.later hbb.lt).cell j _ (zU (q4 (b:=b) (i:=j) (by rw [HLB.znr];omega)))
   have HBA:=znq hba
   have HBB:=znq hbb
   have HBR:=znq hbr
   have HLL:=znq hll
   have HL1:=znq hl1
   have HL2:=znq hl2
   clear hba hbb hbr hll hl1 hl2 hx
   go_wp2_with fail
   refine zn [0,1,2,3,4,5,6,7,8] (by kernel_rfl) (by kernel_rfl) ?_
   rintro w4 rfl
   refine mqR ?_
   clear hc1 hc2
   refine zp rfl rfl (by rfl) (fun K hK=>?_)
   refine HBA.znr.drew.nO (v:=B (ya (at8 a j) (at8 b j))) rfl rfl rfl zl rfl rfl (by rw [yf,HLL.znr];omega) (fun w5 hb5 ho5=>hK _ _ ?_)
   clear hK K
   rw [ym] at hb5
   have hbb5:=HBB.znr.drew.only ho5 (by omega)
   have hbr5:=HBR.znr.drew.only ho5 (by omega)
   have mX:=zk hbel.drew ho5 (xc _)
   clear ho5
   refine zo ?_
   have HB5:=znq hb5
   have HBB5:=znq hbb5
   have HBR5:=znq hbr5
   clear hb5 hbb5 hbr5
   go_wp2
   go_roundw
   case rel =>
    refine ⟨j+1,_,by omega,rfl,by simpa using HLL.znr,fun i hi=>?_,fun i hi=>?_,HB5.znr,HBB5.znr,HBR5.znr,mX⟩
    ·rw [List.getElem?_set]
     by_cases e:j=i
     ·subst e;simp [HLL.znr,hlt]
     ·rw [if_neg e];exact HL1.znr i (by omega)
    ·rw [uH (by omega)]
     exact HL2.znr i (by omega)
   case measure=>simp [intOf];omega
  ·obtain rfl:j=16:=by omega
   obtain rfl:=zbN.znr l ⟨hll,hl1⟩
   have HBA:=znq hba
   have HBR:=znq hbr
   have HLL:=znq hll
   clear hba hbr hll hl1 hl2 hbb zbN
   go_wp2_with (first | (refine HBA.znr.mP rfl rfl rfl zc (by rw [yf,HLL.znr]) ?_) | (refine HBR.znr.mM rfl rfl rfl rfl zc (by simp [zd]) (by rw [yf,HLL.znr]) (zg _) ?_))
   intro w6 hb6 ho6
   go_wp2
   refine hb6.result rfl rfl rfl zc (by rw [yf,HLL.znr]) ⟨rfl,zk hbel ho6 (by omega)⟩
end Go.Proofs.YtamdifhibogdiaaGreatDoor
namespace Go
open RowKit Cells
section
variable {P:Program} {ops:Array Oper} {Q:Exit→Act→World→Prop}
theorem wt {o:Oper} {a:Act} {w:World} {ty:TypeId} {x:Operand} {b off n:Nat} {vs:List Value} (hop:o.op=.load ty x) (hx:a.eval x=.pointer (some ⟨b,off,none⟩)) (hr:Row P ty n) (hn:vs.length=n) (h:w.rangeAt b off vs) :
  (execOp a.eval o).run P w=.ok (.value (.agg vs.toArray)) w:=by
 obtain ⟨d,hu,hd,hi⟩:=hr.open
 simp [execOp,hop,hx,run_loadAt_mid w b off ty vs d h hu hd (by rw [hi,hn])]
theorem ke {w w':World} {B b off:Nat} {vs:List Value} (h:w.rangeAt b off vs) (hb:Below B w w') (hB:b < B):w'.rangeAt b off vs:=fun j v hv=>(hb.cell (p:=⟨b,off+j,none⟩) hB).trans (h j v hv)
theorem zt {i:Nat} {r:List Nat} {o:Oper} {a:Act} {w:World} {ty:TypeId} {x:Operand} {b off n:Nat} {vs:List Value} (h:w.rangeAt b off vs) (hb:b < w.heap.size) (hr:Row P ty n) (hn:vs.length=n)
  (ho:ops[i]? = some o) (hg:o.guard=none) (hop:o.op=.load ty x) (hx:a.eval x=.pointer (some ⟨b,off,none⟩))
  (k:∀ K:Act→Prop,(∀ a',zE P ops Q r a' w→K a')→K (a.put o.dst (.agg vs.toArray))):zE P ops Q (i::r) a w :=
 V0 ho (by unfold Oper.nR;rw [hop]) (by simp [Region.wanted,hg]) (fun w' hw'=>wt hop hx hr hn (ke h hw' hb)) k
theorem zL {k0:Act→World→Prop} {i:Nat} {r:List Nat} {o:Oper} {a:Act} {w:World} {ty:TypeId} {x:Operand} {b off n:Nat} {vs:List Value} (h:w.rangeAt b off vs) (hb:b < w.heap.size) (hr:Row P ty n) (hn:vs.length=n)
  (ho:ops[i]? = some o) (hop:o.op=.load ty x) (hx:a.eval x=.pointer (some ⟨b,off,none⟩))
  (k:∀ K:Act→Prop,(∀ a',zO P ops k0 r a' w→K a')→K (a.put o.dst (.agg vs.toArray))):zO P ops k0 (i::r) a w:=by
 simp only [zO,ho]
 exact ⟨_,fun w' hw'=>wt hop hx hr hn (ke h hw' hb),k _ fun _ h=>h⟩
theorem Blk.nA {w:World} {b:Nat} {vs:List Value} {ty:TypeId} (h:Blk w b vs ty) (off n:Nat) (us:List Value) (hu:(vs.drop off).take n=us):w.rangeAt b off us:=by
 intro j v hv
 subst hu
 rw [List.getElem?_take] at hv
 split at hv
 ·rw [List.getElem?_drop] at hv
  exact h.cell _ _ hv
 ·cases hv
end
end Go
namespace Go.Proofs.YtamdifhibogdiaaGreatDoor
open RowKit Mem Ops Cells Oct Gf Trn
attribute [local irreducible] zE zN zO zM
def sj (w:World) (g:Nat):TypeId:=match w.heap[g]? with
 | some (.cells _ t _)=>t
 | _=>0
structure pQ (w:World):Prop where
 mixes:Blk w 0 (Trn.mixes.map B) (sj w 0)
 unmixes:Blk w 1 (Trn.unmixes.map B) (sj w 1)
def V2:List UInt32:=List.replicate 2048 0
theorem WR:V2.length=2048:=by simp [V2]
theorem XY:Tryz.zeroCells159=(.pointer none::V2.map W).toArray:=by kernel_rfl
theorem QH (p:Nat):(Value.agg (Tryz.zeroCells159.setIfInBounds 0 (.pointer (some ⟨p,0,none⟩)))).cells=(.pointer (some ⟨p,0,none⟩)::V2.map W).toArray:=by
 rw [XY]
 show Array.setIfInBounds _ _ _=_
 rw [List.setIfInBounds_toArray,List.set_cons_zero]
theorem yt:(Tryz.prog.info? 155).map (·.size)=some 1:=by kernel_rfl
theorem zfI (p:Nat) (T:List UInt8) (w:World) (hT:T.length=512) (hb:Blk w p (T.map B) 165) (hg:pQ w):Calls Tryz.prog 51 #[.pointer (some ⟨p,0,none⟩)] w fun e w' =>
  ∃ q,e=.returned (.pointer (some ⟨q,0,none⟩))∧w.heap.size≤q∧Blk w' q (.pointer (some ⟨p,0,none⟩)::(entries T).map W) 159∧Below w.heap.size w w':=by
 have HB:=znq hb
 have HT:=znq hT
 have HG:=znq hg
 clear hb hT hg
 go_enter Tryz.func51,Tryz.ntmps51
 go_wp2_with (refine zh 159 _ (.pointer (some ⟨p,0,none⟩)::V2.map W) _ rfl rfl rfl (QH p) ?_)
 intro w1 hb1 nC
 have hlt1:=hb1.lt
 have HB1:=znq hb1
 have zaL:=znq nC
 have hpw:=HB.znr.lt
 have hg1:=HG.znr.unmixes.lt
 clear hb1 nC
 generalize hq:w.heap.size=q at *
 have HQ:=znq hq
 clear hq
 go_wp2
 go_loopw [11] (fun c wr=>∃ (r:Nat) (l:List UInt32),r≤4∧c=.int .i64 r∧Laid T (256*r) l∧Blk wr q (.pointer (some ⟨p,0,none⟩)::l.map W) 159∧Below q w wr) (fun c _=>4 - (intOf c).toNat)
 case atStart=>exact ⟨0,V2,by omega,rfl,Laid.zero WR,HB1.znr,zaL.znr⟩
 case round =>
  obtain ⟨r,l,hr,rfl,hl,hb,hbel⟩:=hrel
  by_cases hlt:r < 4
  ·have HBR:=znq hb
   have HLR:=znq hl
   have zjH:=znq hbel
   have hd:decide ((r:Int) < 4)=true:=by simp;omega
   clear hb hl hbel
   go_wp2
   go_loopw [14] (fun c ws=>∃ (a:Nat) (l:List UInt32),a≤256∧c=.int .i64 a∧Laid T (256*r+a) l∧Blk ws q (.pointer (some ⟨p,0,none⟩)::l.map W) 159∧Below q w ws) (fun c _=>256 - (intOf c).toNat)
   case atStart=>exact ⟨0,l,by omega,rfl,HLR.znr,HBR.znr,zjH.znr⟩
   case round =>
    obtain ⟨a,l2,ha,rfl,hl2,hb2,mV⟩:=hrel
    by_cases hlt2:a < 256
    ·obtain ⟨x,rfl⟩:∃ x:UInt8,a=x.toNat:=⟨UInt8.ofNat a,by rw [uY (by show _ < 256;omega)]⟩
     have e1:entry T (256*r+x.toNat)=Xn mixes r (at8 T x.toNat):=by
      unfold entry
      rw [if_pos (by omega),show (256*r+x.toNat) / 256=r by omega,show (256*r+x.toNat) % 256=x.toNat by omega]
     have e2:entry T (1024+(256*r+x.toNat))=Xn unmixes r x:=by
      unfold entry
      rw [if_neg (by omega),show (1024+(256*r+x.toNat) - 1024) / 256=r by omega,show (1024+(256*r+x.toNat)) % 256=x.toNat by omega,UInt8.ofNat_toNat]
     have E1:=znq e1
     have E2:=znq e2
     have HB2:=znq hb2
     have HL2:=znq hl2
     have zbB:=znq mV
     have HG2:=znq (Blk.below HG.znr.mixes mV (by omega)).drew
     clear hb2 hl2 mV e1 e2
     go_wp2_with fail
     refine zn [0,1,2,3,4,5,6,7,10,11,12,8,9,13,14] (by kernel_rfl) (by kernel_rfl) ?_
     rintro w6 rfl
     refine vE rfl rfl (fun K hK=>?_);go_big_quiet_step (fail);refine wpQuiet_nil (hK _ ?_);clear hK K
     refine vE rfl rfl (fun K hK=>?_);go_big_quiet_step (fail);refine wpQuiet_nil (hK _ ?_);clear hK K
     refine vE rfl rfl (fun K hK=>?_);go_big_quiet_step (fail);refine wpQuiet_nil (hK _ ?_);clear hK K
     refine zt (HG2.znr.range) HG2.znr.lt kL rfl rfl rfl rfl rfl (fun K hK=>?_)
     go_simp
     refine hK _ ?_
     clear hK K
     refine mqR ?_
     refine zi rfl rfl (by rfl) (fun K hK=>?_)
     go_simp
     refine (zjc p T x _ HT.znr (HB.znr.below (zbB.znr.drew) hpw)).mono ?_
     rintro e w7 ⟨rfl,rfl⟩
     go_simp
     refine hK _ _ (zW.refl _) ?_
     clear hK K
     refine zi rfl rfl (by rfl) (fun K hK=>?_)
     go_simp
     refine (V1 mixes r (at8 T x.toNat) _ rfl hlt).mono ?_
     rintro e w8 ⟨rfl,nG⟩
     go_simp
     rw [← E1.out]
     refine hK _ _ nG ?_
     clear hK K
     refine mqR ?_
     have HB8:=znq (HB2.znr.drew.below nG HB2.znr.lt)
     have zjI:=znq (zbB.znr.drew.trans (Below.mono nG (dB HB2.znr.lt)))
     have hi8:1+r*256+x.toNat < (.pointer (some ⟨p,0,none⟩)::l2.map W:List Value).length:=by rw [uh,yf,HL2.znr.1];omega
     clear nG
     refine zp rfl rfl (by rfl) (fun K hK=>?_)
     refine HB8.znr.nO (v:=W (entry T (256*r+x.toNat))) rfl rfl rfl yt rfl rfl hi8 (fun w9 hb9 ho9=>hK _ _ ?_)
     clear hK K
     rw [show 1+r*256+x.toNat=(256*r+x.toNat)+1 by omega,lF,xI] at hb9
     have HB9:=znq hb9
     have zfJ:=znq (zk zjI.znr ho9 (xc _))
     have HG9:=znq (Blk.below HG.znr.unmixes zfJ.znr (by omega)).drew
     clear hb9 ho9 hi8
     go_simp
     refine zo ?_
     go_wp2_with fail
     refine zn [0,1,2,3,4,5,6,8,9,10,7,11,12] (by kernel_rfl) (by kernel_rfl) ?_
     rintro w6 rfl
     refine vE rfl rfl (fun K hK=>?_);go_big_quiet_step (fail);refine wpQuiet_nil (hK _ ?_);clear hK K
     refine vE rfl rfl (fun K hK=>?_);go_big_quiet_step (fail);refine wpQuiet_nil (hK _ ?_);clear hK K
     refine vE rfl rfl (fun K hK=>?_);go_big_quiet_step (fail);refine wpQuiet_nil (hK _ ?_);clear hK K
     refine zt (HG9.znr.range) HG9.znr.lt kL rfl rfl rfl rfl rfl (fun K hK=>?_)
     go_simp
     refine hK _ ?_
     clear hK K
     refine mqR ?_
     refine zi rfl rfl (by rfl) (fun K hK=>?_)
     go_simp
     refine (V1 unmixes r x _ rfl hlt).mono ?_
     rintro e w10 ⟨rfl,nE⟩
     go_simp
     rw [← E2.out]
     refine hK _ _ nE ?_
     clear hK K
     refine mqR ?_
     have HB10:=znq (HB9.znr.drew.below nE HB9.znr.lt)
     have zfK:=znq (zfJ.znr.drew.trans (Below.mono nE (dB HB9.znr.lt)))
     have hi10:1025+r*256+x.toNat < (.pointer (some ⟨p,0,none⟩)::(l2.set (256*r+x.toNat) (entry T (256*r+x.toNat))).map W:List Value).length:=by rw [uh,yf,Vo,HL2.znr.1];omega
     clear nE
     refine zp rfl rfl (by rfl) (fun K hK=>?_)
     refine HB10.znr.nO (v:=W (entry T (1024+(256*r+x.toNat)))) rfl rfl rfl yt rfl rfl hi10 (fun w11 zbO tV=>hK _ _ ?_)
     clear hK K
     rw [show 1025+r*256+x.toNat=(1024+(256*r+x.toNat))+1 by omega,lF,xI] at zbO
     have zjJ:=znq zbO
     have zfL:=znq (zk zfK.znr tV (xc _))
     clear zbO tV hi10
     go_simp
     refine zo ?_
     go_wp2
     go_roundw
     case rel=>exact ⟨x.toNat+1,_,by omega,rfl,HL2.znr.step (by omega),zjJ.znr,zfL.znr⟩
     case measure=>simp [intOf];omega
    ·obtain rfl:a=256:=by omega
     have HB2:=znq hb2
     have HL2:=znq (show Laid T (256*(r+1)) l2 by rw [show 256*(r+1)=256*r+256 by omega];exact hl2)
     have zbB:=znq mV
     clear hb2 hl2 mV
     go_wp2
     go_roundw
     case rel=>exact ⟨r+1,_,by omega,rfl,HL2.znr,HB2.znr,zbB.znr⟩
     case measure=>simp [intOf];omega
  ·obtain rfl:r=4:=by omega
   obtain rfl:=Laid.all (T:=T) (l:=l) hl
   have HB2:=znq hb
   clear hb hl
   go_wp2
   go_ret
   obtain rfl:=HQ.znr
   exact ⟨_,rfl,xc _,HB2.znr,hbel⟩
end Go.Proofs.YtamdifhibogdiaaGreatDoor
namespace Go.Proofs.YtamdifhibogdiaaGreatDoor
open RowKit Mem Ops Cells Oct Gf Trn
attribute [local irreducible] zE zN zO zM
structure Tab (w:World) (q p:Nat):Prop where
 boxes:Blk w p (boxes.map B) 165
 tab:Blk w q (.pointer (some ⟨p,0,none⟩)::(entries Gf.boxes).map W) 159
theorem Tab.below {w w':World} {q p:Nat} (h:Tab w q p) {B:Nat} (hb:Below B w w') (hB:w.heap.size≤B):Tab w' q p :=
 ⟨h.boxes.below hb (bI h.boxes.lt hB),h.tab.below hb (bI h.tab.lt hB)⟩
theorem Tab.drew {w:World} {q p:Nat} (h:Tab w q p):Tab w.drew q p:=⟨h.boxes.drew,h.tab.drew⟩
theorem Tab.only {w w':World} {q p b:Nat} (h:Tab w q p) (ho:Only b w w') (h1:p≠b) (h2:q≠b):Tab w' q p:=⟨h.boxes.only ho h1,h.tab.only ho h2⟩
theorem Tab.mix {w:World} {q p:Nat} (h:Tab w q p) (r:Nat) (x:UInt8) (hr:r < 4):w.cell? ⟨q,1+r*256+x.toNat,none⟩=some (W (Trn.tab r x)):=by
 have:=lt8 x
 have hx:=qO (l:=entries Gf.boxes) (i:=256*r+x.toNat) (by rw [Yd];omega)
 refine h.tab.cell _ _ ?_
 rw [show 1+r*256+x.toNat=(256*r+x.toNat)+1 by omega,dC]
 exact kz hx
theorem Tab.zjK {w:World} {q p:Nat} (h:Tab w q p) (r:Nat) (x:UInt8) (hr:r < 4):w.cell? ⟨q,1025+r*256+x.toNat,none⟩=some (W (Trn.zcM r x)):=by
 have:=lt8 x
 have hx:=qO (l:=entries Gf.boxes) (i:=1024+256*r+x.toNat) (by rw [Yd];omega)
 refine h.tab.cell _ _ ?_
 rw [show 1025+r*256+x.toNat=(1024+256*r+x.toNat)+1 by omega,dC]
 exact kz hx
theorem zje (q p:Nat) (b key:List UInt8) (w:World) (ht:Tab w q p) (hlb:b.length=16) (hlk:key.length=16) :
  Calls Tryz.prog 228 #[.pointer (some ⟨q,0,none⟩),.agg (b.map B).toArray,.agg (key.map B).toArray] w fun e w'=>e=.returned (.agg ((round b key).map B).toArray)∧Below w.heap.size w w':=by
 have HT:=znq ht
 have HLB:=znq hlb
 have HLK:=znq hlk
 clear ht hlb hlk
 go_enter Tryz.func228,Tryz.ntmps228
 go_wp2_with (refine zh 59 _ (b.map B) _ rfl rfl rfl rfl ?_)
 intro w1 hb1 nC
 go_wp2_with (refine zh 59 _ (key.map B) _ rfl rfl rfl rfl ?_)
 intro w2 hb2 mV
 go_wp2_with (refine ze 59 ((zf 16).map B) _ rfl rfl zj rfl ?_)
 intro w3 hb3 mY
 go_wp2_with (refine ze 59 ((zf 16).map B) _ rfl rfl zj rfl ?_)
 intro w4 hb4 nD
 have hlt1:=hb1.lt
 have hlt2:=hb2.lt
 have hlt3:=hb3.lt
 have zaE:=hb4.lt
 have hlq:=HT.znr.tab.lt
 have hlp:=HT.znr.boxes.lt
 have h12:=nC.trans (mV.mono nC.size)
 have h13:=h12.trans (mY.mono h12.size)
 have h14:=h13.trans (nD.mono h13.size)
 have HB:=znq (((hb1.below mV hlt1).below mY (by omega)).below nD (by omega))
 have HK:=znq ((hb2.below mY hlt2).below nD (by omega))
 have HR:=znq (hb3.below nD hlt3)
 have HO:=znq hb4
 have nT:=znq h14
 have HT:=znq (HT.znr.below h14 (xc _))
 clear hb1 hb2 hb3 hb4 nC mV mY nD h12 h13 h14
 generalize hbb:w.heap.size=bb at *
 generalize w1.heap.size=bk at *
 generalize w2.heap.size=br at *
 generalize w3.heap.size=bo at *
 have HBB:=znq hbb
 clear hbb
 go_wp2
 go_loopw [15] (fun c wr=>∃ (k:Nat) (l:List UInt8),k≤4∧c=.int .i64 k∧yg (Zv b key) 16 (4*k) l∧Blk wr bb (b.map B) 59∧Blk wr bk (key.map B) 59∧Blk wr br ((zf 16).map B) 59∧Blk wr bo (l.map B) 59∧Tab wr q p∧Below bb w wr) (fun c _=>4 - (intOf c).toNat)
 case atStart=>exact ⟨0,zf 16,by omega,rfl,yg.zero (zd _),HB.znr,HK.znr,HR.znr,HO.znr,HT.znr,nT.znr⟩
 case round =>
  clear HB HK HR HO nT HT
  obtain ⟨k,l,hk,rfl,hF,hb,hkk,hr,ho,ht,hbel⟩:=hrel
  have HF:=znq hF
  have HB:=znq hb
  have HK:=znq hkk
  have HR:=znq hr
  have HO:=znq ho
  have HT:=znq ht
  have nT:=znq hbel
  clear hF hb hkk hr ho ht hbel
  by_cases hlt:k < 4
  ·have hd:decide ((k:Int) < 4)=true:=by simp;omega
   go_wp2_with fail
   refine (kZ _ 16 16 (4*k) key _ HLK.znr (by omega) (by omega) HK.znr.lies).mono ?_
   rintro e w5 ⟨rfl,mX⟩
   have hbw:=HB.znr.lt
   have HB:=znq (HB.znr.below mX HB.znr.lt)
   have HK:=znq (HK.znr.below mX HK.znr.lt)
   have HR:=znq (HR.znr.below mX HR.znr.lt)
   have HO:=znq (HO.znr.below mX HO.znr.lt)
   have HT:=znq (HT.znr.below mX (xc _))
   have nT:=znq (nT.znr.trans (mX.mono (dB hbw)))
   have hbw5:=uj (dB hbw) mX.size
   clear mX
   go_wp2
   go_loopw [9,22] (fun n c ws=>∃ r:Nat,r≤4∧c=.int .i64 r∧n=W (nJ b key k r)∧zW w5 ws) (fun _ c _=>4 - (intOf c).toNat)
   case atStart=>exact ⟨0,by omega,rfl,rfl,zW.refl _⟩
   case round =>
    obtain ⟨r,hr,rfl,rfl,hlat⟩:=hrel
    by_cases hlt2:r < 4
    ·have hs:ye r k < 16:=by unfold ye;omega
     have hc1:=fun (x:zG wr.drew)=>(HB.znr.below (hlat.drew.trans (Below.mono x.later hlat.size)) HB.znr.lt).cell _ _ (zU (q4 (b:=b) (i:=ye r k) (by rw [HLB.znr];exact hs)))
     have hc2:=fun (x:zG wr.drew)=>(HT.znr.below (hlat.drew.trans (Below.mono x.later hlat.size)) (xc _)).mix r (at8 b (ye r k)) hlt2
     have h8:=lt8 (at8 b (ye r k))
     go_wp2_with fail
     refine zn [0,1,2,3,4,8,9,10,5,6,7,11,12,13,14] (by kernel_rfl) (by kernel_rfl) ?_
     rintro w6 rfl
     refine mqR ?_
     refine zi rfl rfl (by rfl) (fun K hK=>?_)
     go_simp
     refine (Xs r k _ hlt2 hlt).mono ?_
     rintro e w7 ⟨rfl,rfl⟩
     go_simp
     refine hK _ _ (zW.refl _) ?_
     clear hK K
     refine mqR ?_
     clear hc1 hc2 hs h8
     refine zo ?_
     go_wp2
     go_roundw
     case rel=>exact ⟨r+1,by omega,rfl,rfl,hlat.drew⟩
     case measure=>simp [intOf];omega
    ·obtain rfl:r=4:=by omega
     have HB:=znq (HB.znr.below hlat HB.znr.lt)
     have HK:=znq (HK.znr.below hlat HK.znr.lt)
     have HR:=znq (HR.znr.below hlat HR.znr.lt)
     have HO:=znq (HO.znr.below hlat HO.znr.lt)
     have HT:=znq (HT.znr.below hlat (xc _))
     have nT:=znq (nT.znr.trans (Below.mono hlat hbw5))
     have hbw6:=uj hbw5 hlat.size
     clear hlat
     go_wp2_with fail
     refine (Zy _ _).mono ?_
     rintro e w8 ⟨rfl,nG⟩
     have HB:=znq (HB.znr.below nG HB.znr.lt)
     have HK:=znq (HK.znr.below nG HK.znr.lt)
     have HR:=znq (HR.znr.below nG HR.znr.lt)
     have HO:=znq (HO.znr.below nG HO.znr.lt)
     have HT:=znq (HT.znr.below nG (xc _))
     have nT:=znq (nT.znr.trans (Below.mono nG hbw6))
     have hbw8:=uj hbw6 nG.size
     clear nG
     go_wp2_with (refine ze 161 ((zf 4).map B) _ rfl rfl Xq rfl ?_)
     intro w9 hb9 nM
     have HB:=znq (HB.znr.below nM HB.znr.lt)
     have HK:=znq (HK.znr.below nM HK.znr.lt)
     have HR:=znq (HR.znr.below nM HR.znr.lt)
     have hol:=HO.znr.lt
     have HO:=znq (HO.znr.below nM HO.znr.lt)
     have hbrl:=HR.znr.lt
     have HT:=znq (HT.znr.below nM (xc _))
     have nT:=znq (nT.znr.trans (Below.mono nM hbw8))
     have HW:=znq hb9
     clear nM hb9
     go_wp2_with (refine HW.znr.mM rfl rfl rfl (cs:=(nz (nJ b key k 4)).map B) rfl kL (by simp [zd]) (by simp [yF]) (zg _) ?_)
     intro w10 sD rH
     have HB:=znq (HB.znr.only rH (by omega))
     have HK:=znq (HK.znr.only rH (by omega))
     have HR:=znq (HR.znr.only rH (by omega))
     have HO:=znq (HO.znr.only rH (by omega))
     have HT:=znq (HT.znr.only rH (by omega) (by omega))
     have nT:=znq (zk nT.znr rH (by omega))
     have HW:=znq sD
     clear rH sD
     have hsl:=fun (w':World)=>yY (P:=Tryz.prog) w' 59 5 16 Tryz.underlying59 zl bo 0 (4*k) (4*(k:Int)) rfl (by omega)
     rw [Nat.zero_add] at hsl
     go_wp2_with fail
     refine zn [0,1,2,3,4] (by kernel_rfl) (by kernel_rfl) ?_
     rintro w11 rfl
     refine mqR ?_
     refine zp rfl rfl (by rfl) (fun K hK=>?_)
     refine HO.znr.drew.rC (4*k) ((nz (nJ b key k 4)).map B) rfl rfl rfl Tryz.underlying22 zl (fun _=>rfl) HW.znr.drew.lies (by rw [yf,yF];exact (Nat.min_eq_left (by omega)).symm) (by rw [yf,yf,yF,HF.znr.1];omega) (zg _) (fun w12 pY sJ=>hK _ _ ?_)
     clear hK K hsl
     rw [xV] at pY
     have zcY:=HF.znr.splice (m:=4) (cs:=nz (nJ b key k 4)) (by omega) (yF _) (fun j hj=>zd8 b key k j hj)
     have HF:=znq (show yg (Zv b key) 16 (4*(k+1)) (splice l (4*k) (nz (nJ b key k 4))) from zcY)
     have HB:=znq (HB.znr.drew.only sJ (by omega))
     have HK:=znq (HK.znr.drew.only sJ (by omega))
     have HR:=znq (HR.znr.drew.only sJ (by omega))
     have HT:=znq (HT.znr.drew.only sJ (by omega) (by omega))
     have nT:=znq (zk nT.znr.drew sJ (by omega))
     have HO:=znq pY
     clear sJ pY zcY
     go_simp
     refine zo ?_
     go_wp2
     go_roundw
     case rel=>exact ⟨k+1,_,by omega,rfl,HF.znr,HB.znr,HK.znr,HR.znr,HO.znr,HT.znr,nT.znr⟩
     case measure=>simp [intOf];omega
  ·obtain rfl:k=4:=by omega
   have e:=HF.znr.all
   have HE:=znq (show l=round b key from e)
   clear e
   have zbC:=HF.znr.1
   go_wp2_with (first | (refine HO.znr.mP rfl rfl rfl zc (by rw [yf];exact zbC) ?_) | (refine HR.znr.mM rfl rfl rfl rfl zc (by simp [zd]) (by rw [yf];exact zbC) (zg _) ?_))
   intro w6 hb6 ho6
   have mQ:=zk nT.znr ho6 (by omega)
   go_wp2
   refine hb6.result rfl rfl rfl zc (by rw [yf];exact zbC) ⟨by rw [HE.znr],?_⟩
   rw [HBB.znr]
   exact mQ
end Go.Proofs.YtamdifhibogdiaaGreatDoor
namespace Go.Proofs.YtamdifhibogdiaaGreatDoor
open RowKit Mem Ops Cells Oct Gf Trn
attribute [local irreducible] zE zN zO zM
theorem Tab.zdM {w:World} {q p:Nat} (h:Tab w q p):w.cell? ⟨q,0,none⟩=some (.pointer (some ⟨p,0,none⟩)):=h.tab.cell 0 _ rfl
theorem zl5 (q p:Nat) (b key:List UInt8) (w:World) (ht:Tab w q p) (hlb:b.length=16) (hlk:key.length=16) :
  Calls Tryz.prog 203 #[.pointer (some ⟨q,0,none⟩),.agg (b.map B).toArray,.agg (key.map B).toArray] w fun e w'=>e=.returned (.agg ((last b key).map B).toArray)∧Below w.heap.size w w':=by
 have HLB:=znq hlb
 have HLK:=znq hlk
 have HS:=znq (((St.start w).add ht.tab).add ht.boxes)
 have hlq:=ht.tab.lt
 have hlp:=ht.boxes.lt
 clear ht hlb hlk
 go_enter Tryz.func203,Tryz.ntmps203
 go_wp2_with (refine zh 59 _ (b.map B) _ rfl rfl rfl rfl ?_)
 intro w1 hb hbel;have HS:=znq (HS.znr.push hb hbel);have hlt1:=hb.lt;clear hb hbel
 go_wp2_with (refine zh 59 _ (key.map B) _ rfl rfl rfl rfl ?_)
 intro w2 hb hbel;have HS:=znq (HS.znr.push hb hbel);have hlt2:=hb.lt;clear hb hbel
 go_wp2_with (refine ze 59 ((zf 16).map B) _ rfl rfl zj rfl ?_)
 intro w3 hb hbel;have HS:=znq (HS.znr.push hb hbel);have hlt3:=hb.lt;clear hb hbel
 go_wp2_with (refine ze 59 ((zf 16).map B) _ rfl rfl zj rfl ?_)
 intro w4 hb hbel;have HS:=znq (HS.znr.push hb hbel);have zaE:=hb.lt;clear hb hbel
 generalize hbb:w.heap.size=bb at *
 generalize w1.heap.size=bk at *
 generalize w2.heap.size=br at *
 generalize w3.heap.size=bo at *
 have HBB:=znq hbb
 clear hbb
 go_wp2
 go_loopw [13] (fun c wr=>∃ (k:Nat) (l:List UInt8),k≤4∧c=.int .i64 k∧yg (Zw b) 16 (4*k) l∧St w bb wr [(bo,l.map B,59),(br,(zf 16).map B,59),(bk,key.map B,59),(bb,b.map B,59),(p,Gf.boxes.map B,165),(q,.pointer (some ⟨p,0,none⟩)::(entries Gf.boxes).map W,159)]) (fun c _=>4 - (intOf c).toNat)
 case atStart=>exact ⟨0,zf 16,by omega,rfl,yg.zero (zd _),HS.znr⟩
 case round =>
  clear HS
  obtain ⟨k,l,hk,rfl,hF,hs⟩:=hrel
  by_cases hlt:k < 4
  ·have hd:decide ((k:Int) < 4)=true:=by simp;omega
   have HF:=znq hF
   have HS:=znq hs
   clear hF hs
   go_wp2
   go_loopw [16] (fun c ws=>∃ (r:Nat) (l:List UInt8),r≤4∧c=.int .i64 r∧yg (Zw b) 16 (4*k+r) l∧St w bb ws [(bo,l.map B,59),(br,(zf 16).map B,59),(bk,key.map B,59),(bb,b.map B,59),(p,Gf.boxes.map B,165),(q,.pointer (some ⟨p,0,none⟩)::(entries Gf.boxes).map W,159)]) (fun c _=>4 - (intOf c).toNat)
   case atStart=>exact ⟨0,l,by omega,rfl,HF.znr,HS.znr⟩
   case round =>
    obtain ⟨r,l2,hr,rfl,hF2,hs2⟩:=hrel
    by_cases hlt2:r < 4
    ·have zjL:ye r k < 16:=by unfold ye;omega
     have h8:=lt8 (at8 b (ye r k))
     have hc1:=fun (x:zG wr.drew)=>((hs2.drew.later x.later).get 3 rfl).cell _ _ (zU (q4 (b:=b) (i:=ye r k) (by rw [HLB.znr];exact zjL)))
     have hc2:=fun (x:zG wr.drew)=>((hs2.drew.later x.later).get 5 rfl).cell 0 _ rfl
     have hat:Zw b (4*k+r)=at8 Gf.boxes (at8 b (ye r k)).toNat:=by
      unfold Zw
      rw [show (4*k+r) % 4=r by omega,show (4*k+r) / 4=k by omega]
     have HAT:=znq hat
     have HF2:=znq hF2
     have HS2:=znq hs2
     clear hat hF2 hs2
     go_wp2_with fail
     refine zn [0,1,2,3,4,5,6,7,8,9,10,11,12,13,14,15] (by kernel_rfl) (by kernel_rfl) ?_
     rintro w6 rfl
     refine mqR ?_
     refine zi rfl rfl (by rfl) (fun K hK=>?_)
     go_simp
     refine (Xs r k _ hlt2 hlt).mono ?_
     rintro e w7 ⟨rfl,rfl⟩
     go_simp
     refine hK _ _ (zW.refl _) ?_
     clear hK K
     refine mqR ?_
     refine zi rfl rfl (by rfl) (fun K hK=>?_)
     go_simp
     refine (zjc p Gf.boxes (at8 b (ye r k)) _ kX (HS2.znr.drew.get 4 rfl)).mono ?_
     rintro e w7 ⟨rfl,rfl⟩
     go_simp
     rw [← HAT.znr]
     refine hK _ _ (zW.refl _) ?_
     clear hK K hc1 hc2
     refine mqR ?_
     refine zp rfl rfl (by rfl) (fun K hK=>?_)
     refine (HS2.znr.drew.get 0 rfl).nO (v:=B (Zw b (4*k+r))) rfl rfl rfl zl rfl rfl (by rw [yf,HF2.znr.1];omega) (fun w8 hb8 ho8=>hK _ _ ?_)
     clear hK K
     rw [show r+4*k=4*k+r by omega,ym] at hb8
     have HS3:=znq (HS2.znr.drew.change 0 hb8 ho8 (by omega) (by simp;omega))
     have HF3:=znq (HF2.znr.step (by omega))
     clear hb8 ho8 HS2 HF2
     go_simp
     refine zo ?_
     go_wp2
     go_roundw
     case rel=>exact ⟨r+1,_,by omega,rfl,HF3.znr,HS3.znr⟩
     case measure=>simp [intOf];omega
    ·obtain rfl:r=4:=by omega
     have HF2:=znq (show yg (Zw b) 16 (4*(k+1)) l2 from hF2)
     have HS2:=znq hs2
     clear hF2 hs2
     go_wp2
     go_roundw
     case rel=>exact ⟨k+1,_,by omega,rfl,HF2.znr,HS2.znr⟩
     case measure=>simp [intOf];omega
  ·obtain rfl:k=4:=by omega
   have HE:=znq (show l=(uf 16).map (Zw b) from hF.all)
   have zaF:=znq (show (l.map B).length=16 by rw [yf];exact hF.1)
   have zjM:=znq (show (key.map B).length=16 by rw [yf];exact HLK.znr)
   have zbC:=hF.1
   have HS2:=znq hs
   clear hF hs
   go_wp2_with (first | (refine (HS2.znr.get 0 rfl).mP rfl rfl rfl zc zaF.znr ?_) | (refine (HS2.znr.get 2 rfl).mP rfl rfl rfl zc zjM.znr ?_))
   refine (WQ l key _ zbC HLK.znr).mono ?_
   rintro e w8 ⟨rfl,nG⟩
   have HS3:=znq (HS2.znr.later nG)
   clear nG
   go_wp2_with (refine (HS3.znr.get 1 rfl).mM rfl rfl rfl rfl zc (by rw [yf];exact zd 16) (by rw [yf];exact zB _ _) (zg _) ?_)
   intro w9 hb9 ho9
   have nM:=zk HS3.znr.bel ho9 (by omega)
   go_wp2
   refine hb9.result rfl rfl rfl zc (by rw [yf];exact zB _ _) ⟨by rw [HE.znr];rfl,?_⟩
   rw [HBB.znr]
   exact nM
theorem K5 (q p:Nat) (b:List UInt8) (w:World) (ht:Tab w q p) (hlb:b.length=16) :
  Calls Tryz.prog 318 #[.pointer (some ⟨q,0,none⟩),.agg (b.map B).toArray] w fun e w'=>e=.returned (.agg ((qg b).map B).toArray)∧Below w.heap.size w w':=by
 have HLB:=znq hlb
 have HS:=znq (((St.start w).add ht.tab).add ht.boxes)
 have hlq:=ht.tab.lt
 have hlp:=ht.boxes.lt
 clear ht hlb
 go_enter Tryz.func318,Tryz.ntmps318
 go_wp2_with (refine zh 59 _ (b.map B) _ rfl rfl rfl rfl ?_)
 intro w1 hb hbel;have HS:=znq (HS.znr.push hb hbel);have hlt1:=hb.lt;clear hb hbel
 go_wp2_with (refine ze 59 ((zf 16).map B) _ rfl rfl zj rfl ?_)
 intro w3 hb hbel;have HS:=znq (HS.znr.push hb hbel);have hlt3:=hb.lt;clear hb hbel
 go_wp2_with (refine ze 59 ((zf 16).map B) _ rfl rfl zj rfl ?_)
 intro w4 hb hbel;have HS:=znq (HS.znr.push hb hbel);have zaE:=hb.lt;clear hb hbel
 generalize hbb:w.heap.size=bb at *
 generalize w1.heap.size=br at *
 generalize w3.heap.size=bo at *
 have HBB:=znq hbb
 clear hbb
 go_wp2
 go_loopw [8] (fun c wr=>∃ (k:Nat) (l:List UInt8),k≤4∧c=.int .i64 k∧l.length=16∧(∀ r j,r < 4→j < k→l[ye r j]? = some (kK b (ye r j)))∧St w bb wr [(bo,l.map B,59),(br,(zf 16).map B,59),(bb,b.map B,59),(p,Gf.boxes.map B,165),(q,.pointer (some ⟨p,0,none⟩)::(entries Gf.boxes).map W,159)]) (fun c _=>4 - (intOf c).toNat)
 case atStart=>exact ⟨0,zf 16,by omega,rfl,zd _,fun _ j _ h=>absurd h (by omega),HS.znr⟩
 case round =>
  clear HS
  obtain ⟨k,l,hk,rfl,zbC,hF,hs⟩:=hrel
  by_cases hlt:k < 4
  ·have hd:decide ((k:Int) < 4)=true:=by simp;omega
   have HF:=znq hF
   have HS:=znq hs
   have zaF:=znq zbC
   clear hF hs zbC
   go_wp2
   go_loopw [11] (fun c ws=>∃ (r:Nat) (l:List UInt8),r≤4∧c=.int .i64 r∧l.length=16∧(∀ r j,r < 4→j < k→l[ye r j]? = some (kK b (ye r j)))∧(∀ s,s < r→l[ye s k]? = some (kK b (ye s k)))∧St w bb ws [(bo,l.map B,59),(br,(zf 16).map B,59),(bb,b.map B,59),(p,Gf.boxes.map B,165),(q,.pointer (some ⟨p,0,none⟩)::(entries Gf.boxes).map W,159)]) (fun c _=>4 - (intOf c).toNat)
   case atStart=>exact ⟨0,l,by omega,rfl,zaF.znr,HF.znr,fun s h=>absurd h (by omega),HS.znr⟩
   case round =>
    obtain ⟨r,l2,hr,rfl,hl2,hF2,hG2,hs2⟩:=hrel
    by_cases hlt2:r < 4
    ·have zjL:ye r k < 16:=by unfold ye;omega
     have h8:=lt8 (at8 b (r+4*k))
     have hc1:=fun (x:zG wr.drew)=>((hs2.drew.later x.later).get 2 rfl).cell _ _ (zU (q4 (b:=b) (i:=r+4*k) (by rw [HLB.znr];omega)))
     have hc2:=fun (x:zG wr.drew)=>((hs2.drew.later x.later).get 4 rfl).cell 0 _ rfl
     have hat:kK b (ye r k)=at8 Gf.boxes (256+(at8 b (r+4*k)).toNat):=by
      unfold kK ye
      rw [show (r+4*((k+r) % 4)) % 4=r by omega,show (r+4*((k+r) % 4)) / 4=(k+r) % 4 by omega,show ((k+r) % 4+4 - r) % 4=k by omega]
     have HAT:=znq hat
     have HF2:=znq hF2
     have HG2:=znq hG2
     have HL2:=znq hl2
     have HS2:=znq hs2
     clear hat hF2 hs2 hG2 hl2
     go_wp2_with fail
     refine zn [0,1,3,4,5,6,7,8,9,10,11,12,2,13,14,15] (by kernel_rfl) (by kernel_rfl) ?_
     rintro w6 rfl
     refine mqR ?_
     refine zi rfl rfl (by rfl) (fun K hK=>?_)
     go_simp
     refine (Xs r k _ hlt2 hlt).mono ?_
     rintro e w7 ⟨rfl,rfl⟩
     go_simp
     refine hK _ _ (zW.refl _) ?_
     clear hK K
     refine mqR ?_
     refine zi rfl rfl (by rfl) (fun K hK=>?_)
     go_simp
     refine (zl4 p Gf.boxes (at8 b (r+4*k)) _ kX (HS2.znr.drew.get 3 rfl)).mono ?_
     rintro e w7 ⟨rfl,rfl⟩
     go_simp
     rw [← HAT.znr]
     refine hK _ _ (zW.refl _) ?_
     clear hK K hc1 hc2
     refine mqR ?_
     refine zp rfl rfl (by rfl) (fun K hK=>?_)
     refine (HS2.znr.drew.get 0 rfl).nO (v:=B (kK b (ye r k))) rfl rfl rfl zl rfl rfl (by rw [yf,HL2.znr];omega) (fun w8 hb8 ho8=>hK _ _ ?_)
     clear hK K
     rw [ym] at hb8
     have HS3:=znq (HS2.znr.drew.change 0 hb8 ho8 (by omega) (by simp;omega))
     clear hb8 ho8 HS2
     go_simp
     refine zo ?_
     go_wp2
     go_roundw
     case rel =>
      refine ⟨r+1,_,by omega,rfl,by rw [Vo];exact HL2.znr,fun s j h1 h2=>?_,fun s h1=>?_,HS3.znr⟩
      ·rw [uH (by unfold ye;omega)]
       exact HF2.znr s j h1 h2
      ·by_cases e:s=r
       ·subst e
        rw [List.getElem?_set_self (by rw [HL2.znr];exact zjL)]
       ·rw [uH (by unfold ye;omega)]
        exact HG2.znr s (by omega)
     case measure=>simp [intOf];omega
    ·obtain rfl:r=4:=by omega
     have HL2:=znq hl2
     have HF3:=znq (show ∀ r j,r < 4→j < k+1→l2[ye r j]? = some (kK b (ye r j)) from fun s j h1 h2=>by
      by_cases e:j=k
      ·subst e;exact hG2 s h1
      ·exact hF2 s j h1 (by omega))
     have HS2:=znq hs2
     clear hF2 hs2 hG2 hl2
     go_wp2
     go_roundw
     case rel=>exact ⟨k+1,_,by omega,rfl,HL2.znr,HF3.znr,HS2.znr⟩
     case measure=>simp [intOf];omega
  ·obtain rfl:k=4:=by omega
   have he:l=qg b:=by
    apply List.ext_getElem?
    intro i
    by_cases hi:i < 16
    ·have:=hF (i % 4) ((i / 4+4 - i % 4) % 4) (by omega) (by omega)
     rw [show ye (i % 4) ((i / 4+4 - i % 4) % 4)=i by unfold ye;omega] at this
     rw [this];simp [qg,hi]
    ·rw [qc (by omega),qc (by rw [qi];omega)]
   have HE:=znq he
   have zaF:=znq (show (l.map B).length=16 by rw [yf];exact zbC)
   have HS2:=znq hs
   clear hF hs he zbC
   go_wp2_with (first | (refine (HS2.znr.get 0 rfl).mP rfl rfl rfl zc zaF.znr ?_) | (refine (HS2.znr.get 1 rfl).mM rfl rfl rfl rfl zc (by rw [yf];exact zd 16) zaF.znr (zg _) ?_))
   intro w9 hb9 ho9
   have nM:=zk HS2.znr.bel ho9 (by omega)
   go_wp2
   refine hb9.result rfl rfl rfl zc zaF.znr ⟨by rw [HE.znr],?_⟩
   rw [HBB.znr]
   exact nM
end Go.Proofs.YtamdifhibogdiaaGreatDoor

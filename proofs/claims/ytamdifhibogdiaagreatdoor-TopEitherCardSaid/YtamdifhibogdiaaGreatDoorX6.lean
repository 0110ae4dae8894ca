/-
  Texts of this claim, one behind the other.
-/
import Derived.Test.YtamdifhibogdiaaGreatDoorX2
import Derived.Test.YtamdifhibogdiaaGreatDoorX5
import Derived.Test.YtamdifhibogdiaaGreatDoorX1
import Derived.Deep.DeepCutAuto
import Derived.Deep.CutBlock
import Derived.Lib.Hide
set_option linter.unusedVariables false
set_option linter.unusedSimpArgs false
set_option maxHeartbeats 16000000
set_option maxRecDepth 100000
open Array renaming getD→gU
open List renaming length_drop→XQ,length_map→yf,length_take→Ku,mem_of_getElem?→xU,mem_of_mem_drop→gV,mem_of_mem_take→gW,mem_range→bW,take_add_one→fA,take_of_length_le→Y2
open Nat renaming le_refl→xc,lt_or_ge→bg,lt_succ_self→gK,sub_self→l5,zero_add→bH
namespace Go
open RowKit
section
variable {P:Program} {ops:Array Oper} {Q:Exit→Act→World→Prop} {md:Region.Mode} {R:World→World→Prop} {brk:List Nat}
def qj (R:World→World→Prop) (brk:List Nat) (P:Program) (md:Region.Mode) (ops:Array Oper) (Q:Exit→Act→World→Prop):Nat→Array Bool→Act→World→Prop
 | 0,listed,a,w=>Region.ready md ops listed=[]∧Q .normal a w
 | fuel+1,listed,a,w =>
  (Region.ready md ops listed=[]→Q .normal a w) ∧
  ∀ i∈Region.ready md ops listed,wpOp P ops Q i (fun a' w'=>(brk.contains i=false→R w w')∧qj R brk P md ops Q fuel (listed.setIfInBounds i true) a' w') a w
theorem ZD:∀ (fuel:Nat) (listed:Array Bool) (a:Act) (w:World),qj R brk P md ops Q fuel listed a w→wpAny P md ops Q fuel listed a w
 | 0,_,_,_,h=>h
 | fuel+1,_,_,_,h=>⟨h.1,fun i hi=>wpOp_mono (fun a' w' h'=>ZD fuel _ a' w' h'.2) (h.2 i hi)⟩
theorem YieldsIf.zfM {o:Oper} {v:Value} {a:Act} {w w':World} (ht:∀ a b c,R a b→R b c→R a c) (h:YieldsIf P ops (R w) o v a) (hw:R w w'):YieldsIf P ops (R w') o v a :=
 h.imp (fun ⟨h1,h2⟩=>⟨h1,fun x hx=>h2 x (ht _ _ _ hw hx)⟩) id
theorem qW (hrf:∀ a,R a a) (ht:∀ a b c,R a b→R b c→R a c) {i:Nat} {oi:Oper} {v:Value} (hi:ops[i]? = some oi) (hsel:∀ (j:Nat) (o:Oper) cs b,ops[j]? = some o→o.op≠.select cs b)
  (hQ:∀ c a w,Q (.panic c) (a.put oi.dst v) w→Q (.panic c) a w) (D:Nat→Bool) (hDi:D i=false)
  (hD:∀ d,D d=true→∃ od,ops[d]? = some od∧∃ e∈od.after,Region.binds md e=true∧(e.on=i∨D e.on=true)) :
  ∀ (fuel:Nat) (listed:Array Bool) (a:Act) (w:World),
   (∀ d,D d=true→listed.getD d true=false) →
   (∀ j oj,ops[j]? = some oj→j≠i→listed.getD j true=false→D j=false→oi.apart ops oj=true∧brk.contains j=false) →
   i∈Region.ready md ops listed→YieldsIf P ops (R w) oi v a →
   qj R brk P md ops Q fuel (listed.setIfInBounds i true) (a.put oi.dst v) w→qj R brk P md ops Q (fuel+1) listed a w:=by
 intro fuel
 induction fuel with
 | zero =>
  intro listed a w _ _ hr hy H
  refine ⟨fun h=>(by rw [h] at hr;cases hr),fun j hj=>?_⟩
  by_cases hji:j=i
  ·subst hji;exact hy.wpOp hi (hrf w) ⟨fun _=>hrf w,H⟩
  ·have:=ready_mono hj hji
   rw [H.1] at this
   cases this
 | succ fuel ih =>
  intro listed a w hun hfree hr hy H
  refine ⟨fun h=>(by rw [h] at hr;cases hr),fun j hj=>?_⟩
  by_cases hji:j=i
  ·subst hji;exact hy.wpOp hi (hrf w) ⟨fun _=>hrf w,H⟩
  ·have h1:=H.2 j (ready_mono hj hji)
   obtain ⟨hjun,oj,hoj,hall⟩:=mem_ready.1 hj
   have hget:∀ k,listed.getD k true=false→(listed[k]?).getD true=false:=fun k hk=>by
    rcases bg k listed.size with h' | h'
    ·simpa [gU,h'] using hk
    ·simp [gU,Nat.not_lt.2 h'] at hk
   have hDj:D j=false:=by
    cases hdj:D j with
    | false=>rfl
    | true =>
     obtain ⟨od,hod,e,he,hb,hon⟩:=hD j hdj
     rw [hoj] at hod
     cases hod
     have h1:=hall e he hb
     have h0:listed.getD e.on true=false:=by
      rcases hon with h | h
      ·rw [h];exact (mem_ready.1 hr).1
      ·exact hun _ h
     rcases bg e.on listed.size with h' | h'
     ·simp [h'] at h0 h1;rw [h0] at h1;cases h1
     ·simp [Array.getElem?_eq_none h'] at h1
   have hfj:=hfree j oj hoj hji hjun hDj
   have h2:=wpOp_putIf hoj hfj.1 (fun cs b=>hsel i oi cs b hi) (fun cs b=>hsel j oj cs b hoj) hQ hy h1
   have hun':∀ d,D d=true→(listed.setIfInBounds j true).getD d true=false:=fun d hd=>by
    have hne:j≠d:=by rintro rfl;rw [hDj] at hd;cases hd
    rw [getD_set_ne true hne]
    exact hun d hd
   have hfree':∀ k ok,ops[k]? = some ok→k≠i→(listed.setIfInBounds j true).getD k true=false →
     D k=false→oi.apart ops ok=true∧brk.contains k=false:=fun k ok hk hki hun hno=>by
    refine hfree k ok hk hki ?_ hno
    by_cases hjk:j=k
    ·subst hjk;exact hjun
    ·rw [getD_set_ne true hjk] at hun;exact hun
   refine wpOp_mono (fun a' w' h3=>⟨h3.2.1,ih (listed.setIfInBounds j true) a' w' hun' hfree' (ready_mono hr (Ne.symm hji)) (YieldsIf.zfM ht h3.1 (h3.2.1 hfj.2)) ?_⟩) h2
   rw [Array.setIfInBounds_comm _ _ hji]
   exact h3.2.2
def Region.zfN (brk:List Nat) (md:Region.Mode) (ops:Array Oper) (listed:Array Bool) (i:Nat) (oi:Oper) (D:List Nat):Bool :=
 !D.contains i &&
 D.all (fun d=>!(listed.getD d true) && match ops[d]? with
  | some od=>od.after.any (fun e=>Region.binds md e && (e.on==i || D.contains e.on))
  | none=>false) &&
 (List.range ops.size).all fun j=>j==i || listed.getD j true || D.contains j || match ops[j]? with
  | some oj=>oi.apart ops oj && !brk.contains j
  | none=>true
def Region.zbD (brk:List Nat) (md:Region.Mode) (ops:Array Oper) (listed:Array Bool) (i:Nat):Bool :=
 match ops[i]? with
 | none=>false
 | some oi=>Region.zfN brk md ops listed i oi (Region.pO md ops listed i)
theorem Region.pV {i:Nat} {oi:Oper} {listed:Array Bool} (hi:ops[i]? = some oi) (h:Region.zbD brk md ops listed i=true) :
  ∃ D:Nat→Bool,D i=false∧(∀ d,D d=true→∃ od,ops[d]? = some od∧∃ e∈od.after,Region.binds md e=true∧(e.on=i∨D e.on=true)) ∧
   (∀ d,D d=true→listed.getD d true=false) ∧
   (∀ j oj,ops[j]? = some oj→j≠i→listed.getD j true=false→D j=false→oi.apart ops oj=true∧brk.contains j=false):=by
 unfold Region.zbD at h
 simp only [hi] at h
 generalize Region.pO md ops listed i=L at h
 unfold Region.zfN at h
 rw [Bool.and_eq_true,Bool.and_eq_true] at h
 obtain ⟨⟨h1,h2⟩,h3⟩:=h
 rw [List.all_eq_true] at h2 h3
 refine ⟨fun d=>L.contains d,by simpa using h1,fun d hd=>?_,fun d hd=>?_,fun j oj hj hne hun hnd=>?_⟩
 ·have:=h2 d (by simpa using hd)
  rw [Bool.and_eq_true] at this
  cases hod:ops[d]? with
  | none=>simp [hod] at this
  | some od =>
   have h4:=this.2
   simp only [hod] at h4
   obtain ⟨e,he,hb⟩:=Array.any_eq_true'.1 h4
   rw [Bool.and_eq_true,Bool.or_eq_true] at hb
   exact ⟨od,rfl,e,he,hb.1,hb.2.imp (fun h=>by simpa using h) id⟩
 ·have:=h2 d (by simpa using hd)
  rw [Bool.and_eq_true] at this
  simpa using this.1
 ·have hlt:j < ops.size:=(Array.getElem?_eq_some_iff.1 hj).1
  have:=h3 j (bW.2 hlt)
  have e1:(j==i)=false:=by simpa using hne
  simp only at hnd
  rw [e1,hun,hnd,Bool.false_or,Bool.false_or,Bool.false_or] at this
  simp only [hj,Bool.and_eq_true,Bool.not_eq_true'] at this
  exact this
def Region.sS (brk:List Nat) (md:Region.Mode) (ops:Array Oper):List (Nat×Bool)→Array Bool→Bool
 | [],listed=>Region.ready md ops listed==[]
 | (i,q)::r,listed =>
  (match ops[i]? with
   | none=>false
   | some _=>if q then (Region.ready md ops listed).contains i && Region.zbD brk md ops listed i else Region.ready md ops listed==[i]) &&
  Region.sS brk md ops r (listed.setIfInBounds i true)
def yu (R:World→World→Prop) (brk:List Nat) (P:Program) (ops:Array Oper) (Q:Exit→Act→World→Prop):List (Nat×Bool)→Act→World→Prop
 | [],a,w=>Q .normal a w
 | (i,q)::r,a,w =>
  match ops[i]? with
  | none=>False
  | some o =>
   if Region.wanted o (yielded ops a.tmps)=true then
    (if q then ∃ v,(∀ w',R w w'→(execOp a.eval o).run P w'=.ok (.value v) w')∧yu R brk P ops Q r (a.put o.dst v) w
     else o.wp P a w (fun a' w'=>(brk.contains i=false→R w w')∧yu R brk P ops Q r a' w') Q)
   else yu R brk P ops Q r (a.put o.dst undef) w
theorem qk (hrf:∀ a,R a a) (ht:∀ a b c,R a b→R b c→R a c) (hs:Region.noSelect ops=true) (hQ:∀ c a w,¬ Q (.panic c) a w):∀ (order:List (Nat×Bool)) (listed:Array Bool) (a:Act) (w:World),
  Region.sS brk md ops order listed=true→yu R brk P ops Q order a w→qj R brk P md ops Q order.length listed a w
 | [],listed,a,w,hB,h=>by
  simp only [Region.sS,beq_iff_eq] at hB
  exact ⟨hB,h⟩
 | (i,q)::r,listed,a,w,hB,h=>by
  simp only [Region.sS,Bool.and_eq_true] at hB
  obtain ⟨hB1,hB2⟩:=hB
  cases ho:ops[i]? with
  | none=>simp [ho] at hB1
  | some o =>
   simp only [ho] at hB1
   simp only [yu,ho] at h
   cases q with
   | true =>
    simp only [if_true,Bool.and_eq_true] at hB1 h
    by_cases hw:Region.wanted o (yielded ops a.tmps)=true
    ·rw [if_pos hw] at h
     obtain ⟨v,hv,hr⟩:=h
     obtain ⟨D,hDi,hD,hDu,hDf⟩:=Region.pV ho hB1.2
     exact qW hrf ht ho (Region.noSelect_spec hs) (fun c a w hq=>absurd hq (hQ _ _ _)) D hDi hD r.length listed a w hDu hDf (by simpa using hB1.1) (.inl ⟨hw,hv⟩)
      (qk hrf ht hs hQ r _ _ _ hB2 hr)
    ·rw [if_neg hw] at h
     obtain ⟨D,hDi,hD,hDu,hDf⟩:=Region.pV ho hB1.2
     exact qW hrf ht ho (Region.noSelect_spec hs) (fun c a w hq=>absurd hq (hQ _ _ _)) D hDi hD r.length listed a w hDu hDf (by simpa using hB1.1) (.inr ⟨by simpa using hw,rfl⟩)
      (qk hrf ht hs hQ r _ _ _ hB2 h)
   | false =>
    simp only [Bool.false_eq_true,if_false,beq_iff_eq] at hB1 h
    refine ⟨fun h0=>(by rw [hB1] at h0;cases h0),fun j hj=>?_⟩
    rw [hB1] at hj
    obtain rfl:j=i:=by simpa using hj
    unfold wpOp
    simp only [ho]
    by_cases hw:Region.wanted o (yielded ops a.tmps)=true
    ·rw [if_pos hw] at h ⊢
     refine .inl (Oper.wp_mono ?_ h)
     intro a' w' h'
     refine ⟨h'.1,qk hrf ht hs hQ r _ _ _ hB2 h'.2⟩
    ·rw [if_neg hw] at h ⊢
     exact ⟨fun _=>hrf w,qk hrf ht hs hQ r _ _ _ hB2 h⟩
theorem Yh {id:Nat} {l:List Oper} {a:Act} {w:World} (R:World→World→Prop) (brk:List Nat) (order:List (Nat×Bool)) (hrf:∀ a,R a a) (ht:∀ a b c,R a b→R b c→R a c) (hm:P.follows .mixedOrders=true)
  (hB:(Region.noSelect l.toArray && (order.length==l.length) && Region.sS brk .any l.toArray order (Array.replicate l.length false))=true)
  (h:∀ w',w'=w.drew→yu R brk P l.toArray (NoPanic Q) order a w'):(Code.region id l.toArray true).wp P Q a w:=by
 simp only [Bool.and_eq_true,beq_iff_eq] at hB
 obtain ⟨⟨hs,hl⟩,hB⟩:=hB
 refine wp_region_noPanic (wp_region_any hm (ZD (R:=R) (brk:=brk) _ _ _ _ ?_))
 have:=qk (R:=R) (brk:=brk) (P:=P) (Q:=NoPanic Q) hrf ht hs (fun c a w hq=>hq) order _ a w.drew hB (h _ rfl)
 rw [hl] at this
 exact this
theorem kN {a:Act} {w:World} (h:Q .normal a w):yu R brk P ops (NoPanic Q) [] a w:=h
theorem xL {i:Nat} {r:List (Nat×Bool)} {o:Oper} {a:Act} {w:World} (ho:ops[i]? = some o) (hw:Region.wanted o (yielded ops a.tmps)=true)
  (h:∀ K:Act→World→Prop,(∀ a' w',(brk.contains i=false→R w w')→yu R brk P ops Q r a' w'→K a' w')→o.wp P a w K Q):yu R brk P ops Q ((i,false)::r) a w:=by
 simp only [yu,ho,hw,if_true,Bool.false_eq_true,if_false]
 exact h _ fun _ _ h1 h2=>⟨h1,h2⟩
structure xR (R:World→World→Prop) (w:World) where
 val:World
 rel:R w val
instance (B:Nat) (w:World):Nonempty (xR (Below B) w):=⟨⟨w,Below.refl _ w⟩⟩
abbrev KJ (R:World→World→Prop) (w:World):World→Prop:=fun w'=>∃ x:xR R w,w'=x.val
theorem tO {i:Nat} {r:List (Nat×Bool)} {o:Oper} {tl:List Oper} {a:Act} {w:World} (hd:ops.toList.drop i=o::tl) (hk:o.nR=0)
  (hh:∀ K:Act→Prop,(∀ a',yu R brk P ops Q r a' w→K a')→wpQuiet P ops (KJ R w) K [o] a):yu R brk P ops Q ((i,true)::r) a w:=by
 have h:=hh (fun a'=>yu R brk P ops Q r a' w) (fun _ h=>h)
 have ho:ops[i]? = some o:=by
  have:=congrArg (·[0]?) hd
  simpa using this
 simp only [wpQuiet] at h
 simp only [yu,ho,if_true]
 by_cases hw:Region.wanted o (yielded ops a.tmps)=true
 ·rw [if_pos hw] at h ⊢
  obtain ⟨v,hv,hn⟩:=h
  exact ⟨v,fun w' hw'=>xv hk (hv w' ⟨⟨w',hw'⟩,rfl⟩),hn⟩
 ·rw [if_neg hw] at h ⊢
  exact h
end
end Go
namespace Go.Proofs.YtamdifhibogdiaaGreatDoor
open RowKit Mem Ops Cells Oct Gf Trn Aes
attribute [local irreducible] zE zN zO zM
theorem Y8:(Tryz.prog.info? 294).map (fun i=>(i.zero,i.size,i.bytes))=some (some (.agg ((zf 4).map B).toArray),4,4):=by kernel_rfl
theorem Yi:(Tryz.prog.info? 59).map (fun i=>(i.zero,i.size,i.bytes))=some (some (.agg ((zf 16).map B).toArray),16,16):=by kernel_rfl
theorem Vs:(Tryz.prog.info? 294).map (·.size)=some 4:=by kernel_rfl
theorem Vt:(Tryz.prog.info? 299).map (·.size)=some 1:=by kernel_rfl
theorem Q6:(Tryz.prog.info? 294).map (fun i=>(i.zero,i.size))=some (some (.agg ((zf 4).map B).toArray),4):=by kernel_rfl
theorem zF:(Tryz.prog.info? 59).map (fun i=>(i.zero,i.size))=some (some (.agg ((zf 16).map B).toArray),16):=by kernel_rfl
theorem Zk {w w':World} {b base g n c size:Nat} {e:TypeId} {xs:List Value} (h:w.ownsRow base e size (.slice (some ⟨g,0,none⟩) n c) n xs) (ho:Only b w w') (hne:g≠b):w'.ownsRow base e size (.slice (some ⟨g,0,none⟩) n c) n xs:=by
 refine ⟨h.1,h.2.imp id ?_⟩
 rintro ⟨g',cap,cur,hv,hg,hh,rest⟩
 cases hv
 exact ⟨g,c,cur,rfl,hg,by rw [ho.block g hne];exact hh,rest⟩
theorem QK {w:World} {base g n c size:Nat} {e:TypeId} {xs:List Value} (h:w.ownsRow base e size (.slice (some ⟨g,0,none⟩) n c) n xs):n≤c∧c≤maxLen:=by
 rcases h.2 with ⟨hv,_⟩ | ⟨g',cap,cur,hv,hb,hg,h1,h2,_⟩
 ·cases hv
 ·cases hv;exact ⟨h1,h2⟩
theorem own_ne {w:World} {base n size b:Nat} {v:Value} {e ty:TypeId} {xs vs:List Value} (h:w.ownsRow base e size v n xs) (hb:Blk w b vs ty) (hne:e≠ty):∀ k,v.ownBlock=some k→k≠b:=by
 intro k hk hkb
 subst hkb
 rcases h.2 with ⟨rfl,_⟩ | ⟨g',cap,cur,rfl,_,hg,_⟩
 ·simp [Value.ownBlock] at hk
 ·simp [Value.ownBlock] at hk
  subst hk
  unfold Blk at hb
  rw [hb] at hg
  simp at hg
  exact hne hg.2.symm
theorem zeb {w:World} {base base' n n' size size':Nat} {v v':Value} {e e':TypeId} {xs xs':List Value} (h:w.ownsRow base e size v n xs) (h':w.ownsRow base' e' size' v' n' xs') (hne:e≠e'):∀ k,v.ownBlock=some k→v'.ownBlock≠some k:=by
 intro k hk hk'
 rcases h.2 with ⟨rfl,_⟩ | ⟨g,cap,cur,rfl,_,hg,_⟩
 ·simp [Value.ownBlock] at hk
 rcases h'.2 with ⟨rfl,_⟩ | ⟨g',cap',cur',rfl,_,hg',_⟩
 ·simp [Value.ownBlock] at hk'
 simp [Value.ownBlock] at hk hk'
 subst hk;subst hk'
 rw [hg] at hg'
 simp at hg'
 exact hne hg'.2
theorem zbl (n:Nat) (long:Bool) (k:List UInt8):∀ x∈expand n long k,x.length=16:=by
 intro x hx
 simp only [expand,List.mem_map,bW] at hx
 obtain ⟨i,hi,rfl⟩:=hx
 rw [k6 4 _ (fun k' hk=>Y7 n long k k' (gV (gW hk))),Ku,XQ,KE]
 omega
def flat (ws:List (List UInt8)):List Value:=ws.flatten.map B
theorem YM (ws:List (List UInt8)) (x:List UInt8):flat (ws++[x])=flat ws++x.map B:=by simp [flat]
abbrev zbm (q:Nat) (ao:Option Addr) (len cap n:Nat) (long:Bool) (v:Value) (pw:UInt8) (us:Nat→Value):Act:={ tmps:=#[.pointer (some ⟨q,0,none⟩),.slice ao len cap,us 2,us 3,us 4,us 5,.int .i64 n,.bool long,us 8,v,us 10,B pw,us 12,us 13,us 14,us 15,us 16,us 17,us 18,us 19,us 20,us 21,us 22,us 23,us 24,us 25,us 26,us 27,us 28,us 29,us 30,us 31,us 32,us 33,us 34,us 35,us 36,us 37,us 38,us 39,us 40,us 41,us 42,us 43,us 44,us 45,us 46,us 47,us 48,us 49,us 50,us 51,us 52,us 53,us 54,us 55,us 56,us 57,us 58,us 59,us 60,us 61,us 62,us 63,us 64,us 65,us 66,us 67,us 68,us 69,us 70,us 71,us 72,us 73,us 74,us 75,us 76,us 77,us 78,us 79,us 80,us 81,us 82,us 83,us 84,us 85,us 86,us 87,us 88,us 89,us 90,us 91,us 92,us 93,us 94,us 95,us 96,us 97,us 98,us 99,us 100,us 101,us 102,us 103,us 104,us 105,us 106,us 107,us 108,us 109,us 110,us 111,us 112,us 113,us 114,us 115,us 116,us 117,us 118,us 119,us 120,us 121,us 122,us 123,us 124,us 125,us 126,us 127,us 128,us 129,us 130,us 131,us 132,us 133],defers:=[] }
def zbn (q p:Nat) (ao:Option Addr) (len cap:Nat) (bs:List UInt8) (n:Nat) (long:Bool) (w:World) (x:Act) (wr:World):Prop :=
 ∃ (us:Nat→Value) (m:Nat) (v:Value) (pw:UInt8) (ws:List (List UInt8)),x=zbm q ao len cap n long v pw us∧n≤m∧m < 4*(n+7)∧Hid (ZZ n long bs (m - n)=(ws,pw))∧Hid (wr.ownsRow w.heap.size 294 4 v m (flat ws))∧Hid (Below w.heap.size w wr)
theorem zbn.intro {q p:Nat} {ao:Option Addr} {len cap:Nat} {bs:List UInt8} {n:Nat} {long:Bool} {w:World} {x:Act} {wr:World} (m:Nat) (v:Value) (pw:UInt8) (ws:List (List UInt8))
  (hx:x=zbm q ao len cap n long v pw (fun i=>x.tmps.getD i undef)) (h1:n≤m) (h2:m < 4*(n+7)) (h3:ZZ n long bs (m - n)=(ws,pw)) (h4:wr.ownsRow w.heap.size 294 4 v m (flat ws)) (h5:Below w.heap.size w wr):zbn q p ao len cap bs n long w x wr :=
 ⟨_,m,v,pw,ws,hx,h1,h2,h3,h4,h5⟩
theorem Xt (q p:Nat) (ao:Option Addr) (len cap:Nat) (bs:List UInt8) (n:Nat) (long:Bool) (w:World) (ht:Tab w q p) (hlen:bs.length=len) (hl:zr w ao (bs.map B)) (hn:4≤n∧n≤8) (hnl:len=4*n)
  (hsh:∀ w,Calls Tryz.prog 194 #[.int .i64 len] w fun e w'=>e=.returned (.tuple #[.int .i64 n,.bool long,.int .i64 0])∧w=w') :
  Calls Tryz.prog 169 #[.pointer (some ⟨q,0,none⟩),.slice ao len cap] w fun e w'=>∃ kp kb nI pK,e=.returned (.tuple #[.pointer (some ⟨kp,0,none⟩),.int .i64 0])∧qV w' kp q p (expand n long bs) kb nI (n+7) pK∧(w.heap.size≤kp∧w.heap.size≤kb)∧Below w.heap.size w w':=by
 obtain ⟨i0,hi,hz0,hz1,hz2⟩:=info_parts Y8
 have HI:=znq (And.intro hi (And.intro hz0 (And.intro hz1 hz2)))
 have HT:=znq ht
 have HLEN:=znq hlen
 have HL:=znq hl
 have HSH:=znq hsh
 have HNL:=znq hnl
 have hl32:len≤32:=by omega
 obtain ⟨hn4,hn8⟩:=hn
 clear ht hlen hl hsh hi hz0 hz1 hz2 hnl
 go_enter Tryz.func169,Tryz.ntmps169
 go_wp2_with fail
 refine yd 0 (zbn q p ao len cap bs n long w) (fun x _=>4*(n+7) - (match x.tmps.getD 9 undef with | .slice _ m _=>m | _=>0)) rfl ?_ ?_
 ·simp only [q9]
  go_wp2_with fail
  refine (HSH.znr _).mono ?_
  rintro e w1 ⟨rfl,rfl⟩
  go_wp2_with (at_make;refine wpList_make_own _ rfl _ _ 293 rfl w.heap.size 294 i0 (.agg ((zf 4).map B).toArray) 4 Tryz.underlying293 HI.znr.1 HI.znr.2.1 HI.znr.2.2.1 _ _ _ (4*(n+7)) rfl rfl ?m1 ?m2 ?m3 (xc _) ?_)
  case m1=>simp;omega
  case m2=>rw [HI.znr.2.2.2];omega
  case m3=>unfold maxLen;omega
  intro w1 hown1 hgrow1
  have HOWN:=znq hown1
  have nT:=znq ((Below.refl w.heap.size w).grown hgrow1 (xc _) (fun k h=>by cases h))
  clear hown1 hgrow1
  go_wp2
  go_loopw [9,33] (fun v c wr=>∃ i:Nat,i≤n∧c=.int .i64 i∧wr.ownsRow w.heap.size 294 4 v i (flat ((jK n bs).take i))∧Below w.heap.size w wr) (fun _ c _=>n - (intOf c).toNat)
  case atStart=>exact ⟨0,Nat.zero_le _,rfl,HOWN.znr,nT.znr⟩
  case round =>
   clear HOWN nT
   obtain ⟨i,hin,rfl,hown,hbel⟩:=hrel
   by_cases hlt:i < n
   ·have HOWN:=znq hown
    have nT:=znq hbel
    clear hown hbel
    go_wp2_with fail
    refine (kZ ao len cap (4*i) bs _ HLEN.znr (by omega) (by omega) (HL.znr.below nT.znr)).mono ?_
    rintro e w2 ⟨rfl,mV⟩
    have HOWN:=znq (zm HOWN.znr mV)
    have nT:=znq (nT.znr.trans (mV.mono nT.znr.size))
    clear mV
    go_wp2_with fail
    refine (Zy _ _).mono ?_
    rintro e w3 ⟨rfl,mY⟩
    have HOWN:=znq (zm HOWN.znr mY)
    have nT:=znq (nT.znr.trans (mY.mono nT.znr.size))
    clear mY
    have HX:=znq (yF (yU bs (4*i)))
    have zjN:=znq (show flat ((jK n bs).take (i+1))=flat ((jK n bs).take i)++(nz (yU bs (4*i))).map B by
     rw [← YM]
     congr 1
     rw [fA]
     simp [jK,hlt])
    generalize nz (yU bs (4*i))=x at *
    go_wp2_with (refine qQ 293 294 4 1 _ [x.map B] rfl rfl rfl Tryz.underlying293 Q6 rfl (by omega) rfl (by omega) (by omega) (by intro v hv;simp at hv;subst hv;rw [yf];exact HX.znr) ?_)
    intro w4 hb4 nD
    try rw [show ([x.map B]:List (List Value)).flatten=x.map B by simp] at hb4
    have HB4:=znq hb4
    have HOWN:=znq (zm HOWN.znr nD)
    have nT:=znq (nT.znr.trans (nD.mono nT.znr.size))
    clear hb4 nD
    go_wp2_with (at_builtin;refine wpList_append_own _ rfl (.tmp 36) (.tmp 42) 293 rfl w.heap.size 294 i0 (.agg ((zf 4).map B).toArray) 4 4 Tryz.underlying293 HI.znr.1 HI.znr.2.1 HI.znr.2.2.1 HI.znr.2.2.2 rfl (by decide) _ _ _ rfl HOWN.znr ⟨w3.heap.size,0,none⟩ 1 1 (x.map B) rfl ?c0 HB4.znr.lies.news (zg x) ?c3 ?c4 nT.znr.size ?_)
    case c0=>rw [yf,HX.znr]
    case c3=>unfold maxLen;omega
    case c4=>omega
    intro v5 w5 hown5 hgr5 _
    rw [← zjN.znr] at hown5
    have mX:=z8 nT.znr HOWN.znr hgr5 (xc _) nT.znr.size
    have zjO:=znq hown5
    clear hgr5 hown5
    go_wp2
    go_roundw
    case rel=>exact ⟨i+1,by omega,by go_num,zjO.znr,mX⟩
    case measure=>simp [intOf];omega
   ·obtain rfl:i=n:=by omega
    rw [Y2 (by simp [jK])] at hown
    have HOWN:=znq hown
    have nT:=znq hbel
    clear hown hbel
    go_wp2
    exact zbn.intro i _ 1 _ rfl (by omega) (by omega) (by rw [l5];rfl) HOWN.znr nT.znr
 ·rintro x wr ⟨us,m,v,pw,ws,rfl,hnm,hm,HE,HO,HB⟩
  have hwl:ws.length=m:=by have:=Zx n long bs (m - n);rw [HE.znr] at this;simp only at this;omega
  have hwe:∀ y∈ws,y.length=4:=by have:=Xp n long bs (m - n);rw [HE.znr] at this;exact this
  obtain ⟨g,zjP,rfl,hbg,hgl⟩:=HO.znr.form (by omega)
  have hrows:yB 4 wr (some ⟨g,0,none⟩) ws:=⟨hwe,zr.nQ HO.znr⟩
  obtain ⟨b1,o1,e1,_,hr1⟩:=hrows.range (by omega) (kB (ks:=ws) (i:=m - 1) (by omega))
  cases e1
  rw [bH] at hr1
  have HR1:=znq hr1
  have zjQ:=znq hrows
  have HL1:=znq (show ((key ws (m - 1)).map B).length=4 by rw [yf];exact hwe _ (xU (kB (by omega))))
  have HWL:=znq hwl
  have HWE:=znq hwe
  clear hr1 hrows hwl hwe
  go_wp2_with (first | (refine wpList_load_mid rfl 294 (.tmp 49) rfl g ((m - 1)*4) rfl _ _ HR1.znr Tryz.underlying294 rfl (by rw [HL1.znr];exact yA.2) ?_) | (refine ze 294 ((zf 4).map B) _ rfl rfl jD rfl ?_))
  intro w2 hb2 mV
  have HO:=znq (zm HO.znr mV)
  have HB:=znq (HB.znr.trans (mV.mono HB.znr.size))
  have hszb:=HB.znr.size
  have htb:=hb2.lt
  clear mV
  generalize htbe:wr.heap.size=tb at *
  go_wp2_with (refine hb2.mM rfl rfl rfl rfl yA (by rw [yf];exact zd 4) HL1.znr (zg _) ?_)
  intro w3 hb3 ho3
  have HO:=znq (Zk HO.znr ho3 (by omega))
  have HB:=znq (zk HB.znr ho3 (by omega))
  have HB3:=znq hb3
  clear hb2 hb3 ho3
  go_upto_block 2 with fail
  go_cut [11] (fun s11 wx=>s11=B (if m % n=0 then dbl pw else pw)∧Hid (Blk wx tb ((turned n long m (key ws (m - 1)) pw).map B) 294)∧Hid (Below w.heap.size w wx)∧Hid (wx.ownsRow w.heap.size 294 4 (.slice (some ⟨g,0,none⟩) m zjP) m (flat ws)))
  case first =>
   generalize hx:key ws (m - 1)=x at *
   have HXX:=znq hx
   clear hx
   have hx4:x.length=4:=by have:=HL1.znr;rwa [yf] at this
   obtain ⟨x0,x1,x2,x3,rfl⟩:∃ x0 x1 x2 x3,x=[x0,x1,x2,x3]:=by
    match x,hx4 with
    | [a,b,c,d],_=>exact ⟨a,b,c,d,rfl⟩
   clear hx4
   have HTX:=znq (HT.znr.below HB.znr (xc _))
   by_cases h0:m % n=0
   ·have hd:((m:Int) % (n:Int)==0)=true:=by rw [beq_iff_eq];omega
    have HT1:=znq (show turned n long m [x0,x1,x2,x3] pw=(zbJ [x1,x2,x3,x0]).set 0 (ya (at8 (zbJ [x1,x2,x3,x0]) 0) pw) by unfold turned;rw [if_pos h0];rfl)
    have HT2:=znq (show (if m % n=0 then dbl pw else pw)=dbl pw by rw [if_pos h0])
    have c0:=HB3.znr.cell 0 _ rfl
    have c1:=HB3.znr.cell 1 _ rfl
    have c2:=HB3.znr.cell 2 _ rfl
    have c3:=HB3.znr.cell 3 _ rfl
    clear h0
    go_wp2_with fail
    refine (zbg q p [x1,x2,x3,x0] _ HTX.znr rfl).mono ?_
    rintro e w4 ⟨rfl,nD⟩
    have HO:=znq (zm HO.znr nD)
    have HB:=znq (HB.znr.trans (nD.mono HB.znr.size))
    have HB3:=znq (HB3.znr.below nD HB3.znr.lt)
    clear nD c0 c1 c2 c3
    have HSL:=znq (wo [x1,x2,x3,x0])
    generalize zbJ [x1,x2,x3,x0]=y at *
    go_wp2_with (refine HB3.znr.mM rfl rfl rfl rfl yA HL1.znr (by rw [yf];exact HSL.znr) (zg _) ?_)
    intro w5 hb5 ho5
    have HO:=znq (Zk HO.znr ho5 (by omega))
    have HB:=znq (zk HB.znr ho5 (by omega))
    have HB3:=znq hb5
    clear hb5 ho5
    have c0:=HB3.znr.cell 0 _ (zU (q4 (b:=y) (i:=0) (by rw [HSL.znr];omega)))
    have hf:=HB3.znr.free 0
    go_wp2_with fail
    refine (QF pw _).mono ?_
    rintro e w6 ⟨rfl,rfl⟩
    have hst:=HB3.znr.set 0 (B (ya (at8 y 0) pw))
    rw [ym,← HT1.znr] at hst
    have ho6:Only tb _ _:=Only.setCell w5 ⟨tb,0,none⟩ (B (ya (at8 y 0) pw))
    have HO:=znq (Zk HO.znr ho6 (by omega))
    have HB:=znq (zk HB.znr ho6 (by omega))
    have HB3:=znq hst
    clear hst ho6 c0 hf
    go_wp2_with fail
    go_meet
    case rel=>exact ⟨by rw [HT2.znr],HB3,HB,HO⟩
   ·have hd:((m:Int) % (n:Int)==0)=false:=by rw [beq_eq_false_iff_ne];omega
    have HT2:=znq (show (if m % n=0 then dbl pw else pw)=pw by rw [if_neg h0])
    by_cases h1:long=true∧m % n=4
    ·have hd1:((m:Int) % (n:Int)==4)=true:=by rw [beq_iff_eq];omega
     have HT1:=znq (show turned n long m [x0,x1,x2,x3] pw=zbJ [x0,x1,x2,x3] by unfold turned;rw [if_neg h0,if_pos h1])
     obtain rfl:=h1.1
     clear h0 h1
     go_wp2_with (refine HB3.znr.mP rfl rfl rfl yA HL1.znr ?_)
     refine (zbg q p [x0,x1,x2,x3] _ HTX.znr rfl).mono ?_
     rintro e w4 ⟨rfl,nD⟩
     have HO:=znq (zm HO.znr nD)
     have HB:=znq (HB.znr.trans (nD.mono HB.znr.size))
     have HB3:=znq (HB3.znr.below nD HB3.znr.lt)
     clear nD
     have HSL:=znq (wo [x0,x1,x2,x3])
     generalize zbJ [x0,x1,x2,x3]=y at *
     go_wp2_with (refine HB3.znr.mM rfl rfl rfl rfl yA HL1.znr (by rw [yf];exact HSL.znr) (zg _) ?_)
     intro w5 hb5 ho5
     have HO:=znq (Zk HO.znr ho5 (by omega))
     have HB:=znq (zk HB.znr ho5 (by omega))
     rw [← HT1.znr] at hb5
     have HB3:=znq hb5
     clear hb5 ho5
     go_wp2_with fail
     go_meet
     case rel=>exact ⟨by rw [HT2.znr],HB3,HB,HO⟩
    ·have HT1:=znq (show turned n long m [x0,x1,x2,x3] pw=[x0,x1,x2,x3] by unfold turned;rw [if_neg h0,if_neg h1])
     have HB3:=znq (show Blk w3 tb ((turned n long m [x0,x1,x2,x3] pw).map B) 294 by rw [HT1.znr];exact HB3.znr)
     cases long with
     | false =>
      clear h0 h1
      go_wp2_with fail
      go_meet
      case rel=>exact ⟨by rw [HT2.znr],HB3,HB,HO⟩
     | true =>
      have hd1:((m:Int) % (n:Int)==4)=false:=by rw [beq_eq_false_iff_ne];simp at h1;omega
      clear h0 h1
      go_wp2_with fail
      go_meet
      case rel=>exact ⟨by rw [HT2.znr],HB3,HB,HO⟩
  case rest =>
   obtain ⟨rfl,HB3,HB,HO⟩:=hcut
   have htl:=Vr n long m (key ws (m - 1)) pw (by have:=HL1.znr;rwa [yf] at this)
   have HGO:=znq (show ZZ n long bs (m+1 - n)=(ws++[nY (key ws (m - n)) (turned n long m (key ws (m - 1)) pw)],if m % n=0 then dbl pw else pw) by
    rw [show m+1 - n=(m - n)+1 by omega,ZZ,HE.znr,KI]
    simp only [HWL.znr])
   generalize turned n long m (key ws (m - 1)) pw=tr at *
   generalize (if m % n=0 then dbl pw else pw)=pw2 at *
   have HTL:=znq htl
   have ziB:=znq (show (tr.map B).length=4 by rw [yf];exact htl)
   clear htl
   have hnn:(m:Int) - n=((m - n:Nat):Int):=by omega
   have hrows:yB 4 wc (some ⟨g,0,none⟩) ws:=⟨HWE.znr,zr.nQ HO.znr⟩
   obtain ⟨b1,o1,e1,hlg,hr1⟩:=hrows.range (by omega) (kB (ks:=ws) (i:=m - n) (by have:=HWL.znr;omega))
   cases e1
   rw [bH] at hr1
   have HRN:=znq hr1
   have HLG:=znq hlg
   have HKL:=znq (show (key ws (m - n)).length=4 from HWE.znr _ (xU (kB (by have:=HWL.znr;omega))))
   have tY:=znq (show ((key ws (m - n)).map B).length=4 by rw [yf];exact HKL.znr)
   generalize key ws (m - n)=x at *
   clear hr1 hlg hrows
   go_wp2_with fail
   refine zn [0,1,2,3,4,5,6,7,8,9,10,11,12] (by kernel_rfl) (by kernel_rfl) ?_
   rintro w4 rfl
   iterate 7 refine m1R ?_
   refine zt (off:=(m - n)*4) HRN.znr HLG.znr yA tY.znr rfl rfl rfl rfl (fun K hK=>?_)
   go_simp;refine hK _ ?_;clear hK K
   refine zt HB3.znr.drew.range HB3.znr.drew.lt yA ziB.znr rfl rfl rfl rfl (fun K hK=>?_)
   go_simp;refine hK _ ?_;clear hK K
   refine zi rfl rfl (by rfl) (fun K hK=>?_)
   go_simp
   refine (zjj x tr _ HKL.znr HTL.znr).mono ?_
   rintro e w5 ⟨rfl,mX⟩
   have HO:=znq (zm (w:=wc.drew) HO.znr mX)
   have HB:=znq (HB.znr.drew.trans (mX.mono HB.znr.size))
   have HXL:=znq (XT x tr)
   generalize nY x tr=z at *
   go_simp
   refine hK _ _ mX ?_
   clear hK K mX
   refine zi rfl rfl (by rfl) (fun K hK=>?_)
   refine y8 293 294 4 1 _ [z.map B] rfl rfl Tryz.underlying293 Q6 rfl (by omega) rfl (by omega) (by omega) (by intro v hv;simp at hv;subst hv;rw [yf];exact HXL.znr) ?_
   intro w6 hb6 mQ
   refine hK _ _ mQ ?_
   clear hK K
   try rw [show ([z.map B]:List (List Value)).flatten=z.map B by simp] at hb6
   have HO:=znq (zm HO.znr mQ)
   have HB:=znq (HB.znr.trans (mQ.mono HB.znr.size))
   have HB6:=znq hb6
   clear hb6 mQ
   go_simp
   obtain ⟨i0,hi0,hz0,hz1,hz2⟩:=info_parts Y8
   refine zp rfl rfl (by rfl) (fun K hK=>?_)
   refine wp_append_own _ (.tmp 87) (.tmp 97) 293 rfl w.heap.size 294 i0 (.agg ((zf 4).map B).toArray) 4 4 Tryz.underlying293 hi0 hz0 hz1 hz2 rfl (by decide) _ _ _ rfl HO.znr ⟨w5.heap.size,0,none⟩ 1 1 (z.map B) rfl (by rw [yf];exact HXL.znr) HB6.znr.lies.news (zg z) (by unfold maxLen;omega) (by omega) HB.znr.size ?_
   intro v7 w7 rq zeO _
   refine hK _ _ ?_
   clear hK K
   rw [← YM] at rq
   have ny:=z8 HB.znr HO.znr zeO (xc _) HB.znr.size
   have HO:=znq rq
   have HB:=znq ny
   clear rq ny zeO hi0 hz0 hz1 hz2
   go_simp
   refine mqR ?_
   refine zo ?_
   obtain ⟨g7,zbE,rfl,hbg7,hgl7⟩:=HO.znr.form (by omega)
   by_cases hlast:m+1 < 4*(n+7)
   ·go_wp2_with fail
    refine wp_goto ⟨rfl,zbn.intro (m+1) _ pw2 (ws++[z]) rfl (by omega) hlast HGO.znr HO.znr HB.znr,?_⟩
    show 4*(n+7) - (m+1) < 4*(n+7) - m
    omega
   ·obtain rfl:m=4*(n+7) - 1:=by omega
    have HWS:=znq (show Zg n long bs=ws++[z] by unfold Zg;rw [show 4*(n+7) - n=4*(n+7) - 1+1 - n by omega,HGO.znr])
    have HWL2:=znq (show (ws++[z]).length=4*(n+7) by rw [List.length_append,HWL.znr];simp;omega)
    have HWE2:=znq (show ∀ y∈ws++[z],y.length=4 by rw [← HWS.znr];exact Y7 n long bs)
    generalize ws++[z]=wz at *
    clear HRN HR1 zjQ HKL tY HLG HTL ziB HL1 hnn HE HGO HWL HWE HB3 HB6 HXL
    go_wp2_with (refine zh 301 _ [.pointer (some ⟨q,0,none⟩),.slice none 0 0] _ rfl rfl rfl rfl ?_)
    intro w8 hb8 nG
    have HO:=znq (zm HO.znr nG)
    have HB:=znq (HB.znr.trans (nG.mono HB.znr.size))
    have hgk:g7 < w7.heap.size:=hgl7
    have hkb:w.heap.size≤w7.heap.size:=Nat.le_of_lt (Nat.lt_of_le_of_lt hbg7 hgl7)
    generalize w7.heap.size=kb at *
    have HB8:=znq hb8
    clear hb8 nG
    go_wp2
    have HKO:=znq (vL w8 w.heap.size 59 16)
    clear HKO
    go_loopw [14,112] (fun _ c wr=>∃ (i:Nat) (v:Value),i≤n+7∧c=.int .i64 i∧Hid (wr.ownsRow (kb+1) 59 16 v i (flat ((expand n long bs).take i)))∧Hid (Blk wr kb [.pointer (some ⟨q,0,none⟩),v] 301)∧Hid (wr.ownsRow w.heap.size 294 4 (.slice (some ⟨g7,0,none⟩) (4*(n+7) - 1+1) zbE) (4*(n+7) - 1+1) (flat wz))∧Hid (Below w.heap.size w wr)) (fun _ c _=>n+7 - (intOf c).toNat)
    case atStart=>exact ⟨0,.slice none 0 0,by omega,rfl,vL _ _ _ _,HB8,HO,HB⟩
    case round =>
     clear HO HB HB8
     obtain ⟨i,v,hin,rfl,HV,HKB,HO,HB⟩:=hrel
     by_cases hlt:i < n+7
     ·have hsl:∀ w',(Instr.slice 293 (.slice (some ⟨g7,0,none⟩) (4*(n+7) - 1+1) zbE) (some (.int .i64 (4*(i:Int)))) (some (.int .i64 (4*(i:Int)+4))) none).run Tryz.prog w'=.ok (.slice (Zj (some ⟨g7,0,none⟩) zbE (4*i) 4) 4 (zbE - 4*i)) w':=by
       intro w'
       have:=zbi (P:=Tryz.prog) w' 293 294 4 Tryz.underlying293 Vs (some ⟨g7,0,none⟩) (4*(n+7) - 1+1) zbE (4*i) (4*i+4) (4*(i:Int)) (4*(i:Int)+4) (by omega) (by omega) (by omega) (by have:=(QK HO.znr).1;omega)
       rwa [show 4*i+4 - 4*i=4 by omega] at this
      have hc1:=fun (x:xR (Below (kb+1)) wr.drew)=>(HKB.znr.drew.below x.rel (gK kb)).cell 1 _ rfl
      have hrows:yB 4 wr (some ⟨g7,0,none⟩) wz:=⟨HWE2.znr,zr.nQ HO.znr⟩
      have HCUT:=znq (hrows.cut (cap:=zbE) (by rw [HWL2.znr];have:=(QK HO.znr).1;omega) (4*i) 4)
      have HEX:=znq (show (expand n long bs).take (i+1)=(expand n long bs).take i++[((wz.drop (4*i)).take 4).flatten] by
       rw [fA,← HWS.znr]
       congr 1
       simp [expand,hlt])
      have HN4:=znq (show ((wz.drop (4*i)).take 4).length=4 by rw [Ku,XQ,HWL2.znr];omega)
      have HN16:=znq (show ((wz.drop (4*i)).take 4).flatten.length=16 by
       rw [k6 4 _ (fun k hk=>HWE2.znr k (gV (gW hk))),HN4.znr])
      generalize (wz.drop (4*i)).take 4=x at *
      clear hrows
      go_wp2_with fail
      refine Yh (Below (kb+1)) [17] [(0,true),(1,true),(2,true),(3,true),(4,true),(5,true),(6,true),(7,true),(8,true),(9,true),(10,true),(11,true),(12,false),(13,false),(14,false),(15,true),(16,true),(17,false)] (fun a=>Below.refl _ a) (fun _ _ _ h1 h2=>h1.trans h2) (by kernel_rfl) (by kernel_rfl) ?_
      rintro w4 rfl
      refine mqK ?_
      refine xL rfl (by rfl) (fun K hK=>?_)
      go_simp
      refine (zgs _ _ x _ HN4.znr (HCUT.znr.below (Below.refl _ wr).drew)).mono ?_
      rintro e w5 ⟨rfl,mX⟩
      have hkl:=HKB.znr.lt
      have HV:=znq (zm (w:=wr.drew) HV.znr mX)
      have HO:=znq (zm (w:=wr.drew) HO.znr mX)
      have HKB:=znq (HKB.znr.drew.below mX hkl)
      have HB:=znq (HB.znr.drew.trans (mX.mono HB.znr.size))
      generalize x.flatten=y at *
      go_simp
      refine hK _ _ (fun _=>mX.mono hkl) ?_
      clear hK K mX hc1
      refine xL rfl (by rfl) (fun K hK=>?_)
      refine y8 299 59 16 1 _ [y.map B] rfl rfl Tryz.underlying299 zF rfl (by omega) rfl (by omega) (by omega) (by intro v hv;simp at hv;subst hv;rw [yf];exact HN16.znr) ?_
      intro w6 hb6 mQ
      have hkl5:=HKB.znr.lt
      refine hK _ _ (fun _=>mQ.mono hkl5) ?_
      clear hK K
      try rw [show ([y.map B]:List (List Value)).flatten=y.map B by simp] at hb6
      have HV:=znq (zm HV.znr mQ)
      have HO:=znq (zm HO.znr mQ)
      have HKB:=znq (HKB.znr.below mQ HKB.znr.lt)
      have HB:=znq (HB.znr.trans (mQ.mono HB.znr.size))
      have HB6:=znq hb6
      clear hb6 mQ
      go_simp
      obtain ⟨i0,hi0,hz0,hz1,hz2⟩:=info_parts Yi
      refine xL rfl (by rfl) (fun K hK=>?_)
      refine wp_append_own _ (.tmp 119) (.tmp 128) 299 rfl (kb+1) 59 i0 (.agg ((zf 16).map B).toArray) 16 16 Tryz.underlying299 hi0 hz0 hz1 hz2 rfl (by decide) _ _ _ rfl HV.znr ⟨w5.heap.size,0,none⟩ 1 1 (y.map B) rfl (by rw [yf];exact HN16.znr) HB6.znr.lies.news (zg y) (by unfold maxLen;omega) (by omega) HKB.znr.lt ?_
      intro v7 w7 rq zeO _
      have hkl6:=HKB.znr.lt
      have ny:Below (kb+1) w6 w7:=z8 (Below.refl _ _) HV.znr zeO (xc _) hkl6
      refine hK _ _ (fun _=>ny) ?_
      clear hK K
      rw [← YM,← HEX.znr] at rq
      have hne:=zeb HO.znr HV.znr (by decide) g7 rfl
      have HO:=znq (HO.znr.kept zeO (Or.inr (fun h=>hne h.symm)))
      have HV:=znq rq
      have HKB:=znq (HKB.znr.below ny (gK kb))
      have HB:=znq (HB.znr.trans (ny.mono (by omega)))
      clear zeO rq hi0 hz0 hz1 hz2 ny hne
      go_simp
      refine mqK ?_
      obtain ⟨gv,zdO,rfl,hgv1,hgv2⟩:=HV.znr.form (by omega)
      refine xL rfl (by rfl) (fun K hK=>?_)
      refine HKB.znr.nO (i:=1) (v:=.slice (some ⟨gv,0,none⟩) (i+1) zdO) rfl rfl rfl Vt rfl rfl (by simp) (fun w8 hb8 ho8=>hK _ _ (fun h=>by simp at h) ?_)
      clear hK K
      have hne:=own_ne HO.znr HKB.znr (by decide) g7 rfl
      have HO:=znq (Zk HO.znr ho8 hne)
      have HV:=znq (Zk HV.znr ho8 (by omega))
      have HB:=znq (zk HB.znr ho8 hkb)
      have HKB:=znq hb8
      clear hb8 ho8
      go_simp
      refine kN ?_
      go_wp2_with fail
      go_roundw
      case rel=>exact ⟨i+1,_,by omega,by go_num,HV,HKB,HO,HB⟩
      case measure=>simp [intOf];omega
     ·obtain rfl:i=n+7:=by omega
      obtain ⟨gv,zdO,rfl,hgv1,hgv2⟩:=HV.znr.form (by omega)
      have hexl:=wJ n long bs
      have HEA:=znq (show (expand n long bs).take (n+7)=expand n long bs from Y2 (by omega))
      have hv:=HV.znr
      rw [HEA.znr] at hv
      have HV:=znq hv
      clear hv
      have HEL:=znq hexl
      clear hexl
      go_wp2_with fail
      go_ret2
      refine ⟨kb,gv,0,zdO,rfl,?_,⟨hkb,by omega⟩,HB.znr⟩
      have hcap:=QK HV.znr
      exact ⟨HT.znr.below HB.znr (xc _),HEL.znr,by omega,hcap.1,by omega,⟨zbl n long bs,zr.nQ HV.znr⟩,HKB.znr⟩
theorem Q7 (q p:Nat) (ao:Option Addr) (cap:Nat) (bs:List UInt8) (w:World) (ht:Tab w q p) (hlen:bs.length=32) (hl:zr w ao (bs.map B)) :
  Calls Tryz.prog 169 #[.pointer (some ⟨q,0,none⟩),.slice ao 32 cap] w fun e w'=>∃ kp kb nI pK,e=.returned (.tuple #[.pointer (some ⟨kp,0,none⟩),.int .i64 0])∧qV w' kp q p (expand 8 true bs) kb nI 15 pK∧(w.heap.size≤kp∧w.heap.size≤kb)∧Below w.heap.size w w' :=
 Xt q p ao 32 cap bs 8 true w ht hlen hl (by omega) (by omega) zjg
theorem zbo (q p:Nat) (ao:Option Addr) (cap:Nat) (bs:List UInt8) (w:World) (ht:Tab w q p) (hlen:bs.length=16) (hl:zr w ao (bs.map B)) :
  Calls Tryz.prog 169 #[.pointer (some ⟨q,0,none⟩),.slice ao 16 cap] w fun e w'=>∃ kp kb nI pK,e=.returned (.tuple #[.pointer (some ⟨kp,0,none⟩),.int .i64 0])∧qV w' kp q p (expand 4 false bs) kb nI 11 pK∧(w.heap.size≤kp∧w.heap.size≤kb)∧Below w.heap.size w w' :=
 Xt q p ao 16 cap bs 4 false w ht hlen hl (by omega) (by omega) zjh
theorem zbp (q p:Nat) (ao:Option Addr) (cap:Nat) (bs:List UInt8) (w:World) (ht:Tab w q p) (hlen:bs.length=24) (hl:zr w ao (bs.map B)) :
  Calls Tryz.prog 169 #[.pointer (some ⟨q,0,none⟩),.slice ao 24 cap] w fun e w'=>∃ kp kb nI pK,e=.returned (.tuple #[.pointer (some ⟨kp,0,none⟩),.int .i64 0])∧qV w' kp q p (expand 6 false bs) kb nI 13 pK∧(w.heap.size≤kp∧w.heap.size≤kb)∧Below w.heap.size w w' :=
 Xt q p ao 24 cap bs 6 false w ht hlen hl (by omega) (by omega) zji
end Go.Proofs.YtamdifhibogdiaaGreatDoor
namespace Go.Proofs.YtamdifhibogdiaaGreatDoor
open RowKit Mem Ops Cells Oct Gf Trn Aes Ring
attribute [local irreducible] zE zN zO zM yu
theorem KG (m:UInt64):(yp m 1).toNat=m.toNat / 2:=by
 have h:=KV m 1
 omega
theorem Q8 (a:List UInt8) (w:World) (ha:a.length=16):Calls Tryz.prog 268 #[.agg (a.map B).toArray] w fun e w'=>e=.returned (.agg ((rV a).map B).toArray)∧Below w.heap.size w w':=by
 have HLA:=znq ha
 have HLM:=znq (show (a.map B).length=16 by rw [yf];exact ha)
 have HS:=znq (St.start w)
 clear ha
 go_enter Tryz.func268,Tryz.ntmps268
 go_wp2_with (refine zh 59 _ (a.map B) _ rfl rfl rfl rfl ?_)
 intro w1 hb hbel;have HS:=znq (HS.znr.push hb hbel);have hlt1:=hb.lt;clear hb hbel
 go_wp2_with (refine ze 59 ((zf 16).map B) _ rfl rfl zj rfl ?_)
 intro w2 hb hbel;have HS:=znq (HS.znr.push hb hbel);have hlt2:=hb.lt;clear hb hbel
 go_wp2_with (refine ze 59 ((zf 16).map B) _ rfl rfl zj rfl ?_)
 intro w3 hb hbel;have HS:=znq (HS.znr.push hb hbel);have hlt3:=hb.lt;clear hb hbel
 generalize hbb:w.heap.size=bb at *
 generalize w1.heap.size=br at *
 generalize w2.heap.size=bo at *
 have HBB:=znq hbb
 clear hbb
 go_wp2
 go_loopw [4,5] (fun _ c wr=>∃ (k:Nat) (l:List UInt8),k≤15∧c=.int .i64 k∧Hid (yg (zbd a) 16 k l)∧Hid (St w bb wr [(bo,l.map B,59),(br,(zf 16).map B,59),(bb,a.map B,59)])) (fun _ c _=>15 - (intOf c).toNat)
 case atStart=>exact ⟨0,zf 16,by omega,rfl,yg.zero (zd 16),HS⟩
 case round =>
  clear HS
  obtain ⟨k,l,hk,rfl,HF,HS⟩:=hrel
  by_cases hlt:k < 15
  ·have hd:decide ((k:Int) < 15)=true:=by simp;omega
   have c0:=fun (x:zG wr.drew)=>(HS.znr.drew.later x.later).get 2 rfl |>.cell k _ (zU (q4 (b:=a) (i:=k) (by rw [HLA.znr];omega)))
   have c1:=fun (x:zG wr.drew)=>(HS.znr.drew.later x.later).get 2 rfl |>.cell (k+1) _ (zU (q4 (b:=a) (i:=k+1) (by rw [HLA.znr];omega)))
   go_wp2_with fail
   refine zn [0,1,2,3,4,5,6,7,8,9,10,11,12] (by kernel_rfl) (by kernel_rfl) ?_
   rintro w4 rfl
   refine mqR ?_
   have HE:=znq (show or8 (Z6 (at8 a k) 1) (rF (at8 a (k+1)) 7)=zbd a k by unfold zbd;rw [if_pos hlt])
   refine zp rfl rfl (by rfl) (fun K hK=>?_)
   refine (HS.znr.drew.get 0 rfl).nO (i:=k) (v:=B (or8 (Z6 (at8 a k) 1) (rF (at8 a (k+1)) 7))) rfl rfl rfl zl rfl rfl (by rw [yf,HF.znr.1];omega) (fun w5 hb5 ho5=>hK _ _ ?_)
   clear hK K c0 c1
   rw [ym,HE.znr] at hb5
   have HS:=znq (HS.znr.drew.change 0 hb5 ho5 (by omega) (by simp;omega))
   clear hb5 ho5
   go_simp
   refine zo ?_
   go_wp2
   go_roundw
   case rel=>exact ⟨k+1,_,by omega,by go_num,HF.znr.step (by omega),HS⟩
   case measure=>simp [intOf];omega
  ·obtain rfl:k=15:=by omega
   have c0:=(HS.znr.get 2 rfl).cell 15 _ (zU (q4 (b:=a) (i:=15) (by rw [HLA.znr];omega)))
   have c1:=(HS.znr.get 2 rfl).cell 0 _ (zU (q4 (b:=a) (i:=0) (by rw [HLA.znr];omega)))
   obtain ⟨w4,hw4⟩:∃ w4,w4=wr.setCell ⟨bo,15,none⟩ (.int .u8 ((ya (Z6 (at8 a 15) 1) (QB (rF (at8 a 0) 7) 135)).toNat:Int)):=⟨_,rfl⟩
   have hst:=(HS.znr.get 0 rfl).set 15 (B (ya (Z6 (at8 a 15) 1) (QB (rF (at8 a 0) 7) 135)))
   have ho:Only bo wr w4:=by rw [hw4];exact Only.setCell wr ⟨bo,15,none⟩ _
   have HE:=znq (show ya (Z6 (at8 a 15) 1) (QB (rF (at8 a 0) 7) 135)=zbd a 15 by rfl)
   obtain ⟨u,hu⟩:=HF.znr.at (i:=15) (by omega)
   have c2:=(HS.znr.get 0 rfl).cell 15 _ (zU hu)
   have hf:=(HS.znr.get 0 rfl).free 15
   rw [ym] at hst
   have HST:=znq (show Blk w4 bo ((l.set 15 (ya (Z6 (at8 a 15) 1) (QB (rF (at8 a 0) 7) 135))).map B) 59 by rw [hw4];exact hst)
   have HO:=znq ho
   have HW4:=znq hw4
   clear hst ho hu hw4
   have ziC:=(show l.set 15 (ya (Z6 (at8 a 15) 1) (QB (rF (at8 a 0) 7) 135))=rV a by rw [HE.znr];exact (HF.znr.step (by omega)).all)
   rw [ziC] at HST
   clear ziC
   have HLL:=znq (show ((rV a).map B).length=16 by rw [yf];exact vf a)
   have HRS:=znq ((HS.znr.get 1 rfl).only HO.znr (by omega))
   go_upto_region 8 with fail
   rw [← HW4.znr]
   clear c0 c1 c2 hf
   go_wp2_with (first | (refine HST.znr.mP rfl rfl rfl zc HLL.znr ?_) | (refine HRS.znr.mM rfl rfl rfl rfl zc (by simp [zd]) HLL.znr (zg _) ?_))
   intro w5 hb5 ho5
   go_wp2
   refine hb5.result rfl rfl rfl zc HLL.znr ⟨rfl,?_⟩
   rw [HBB.znr]
   exact zk (zk HS.znr.bel HO.znr (by omega)) ho5 (by omega)
theorem zjl (a b:List UInt8) (wanted:Bool) (w:World) (ha:a.length=16) (hb:b.length=16):Calls Tryz.prog 267 #[.agg (a.map B).toArray,.agg (b.map B).toArray,.bool wanted] w fun e w'=>e=.returned (.agg ((zaH a b wanted).map B).toArray)∧Below w.heap.size w w':=by
 have HLA:=znq ha
 have HLB:=znq hb
 have HLM:=znq (show (a.map B).length=16 by rw [yf];exact ha)
 have HS:=znq (St.start w)
 have HBX:=znq (QD a b ha hb)
 clear ha hb
 go_enter Tryz.func267,Tryz.ntmps267
 go_wp2_with (refine zh 59 _ (a.map B) _ rfl rfl rfl rfl ?_)
 intro w1 hb hbel;have HS:=znq (HS.znr.push hb hbel);have hlt1:=hb.lt;clear hb hbel
 go_wp2_with (refine zh 59 _ (b.map B) _ rfl rfl rfl rfl ?_)
 intro w2 hb hbel;have HS:=znq (HS.znr.push hb hbel);have hlt2:=hb.lt;clear hb hbel
 go_wp2_with (refine ze 59 ((zf 16).map B) _ rfl rfl zj rfl ?_)
 intro w3 hb hbel;have HS:=znq (HS.znr.push hb hbel);have hlt3:=hb.lt;clear hb hbel
 generalize hbb:w.heap.size=bb at *
 generalize w1.heap.size=bk at *
 generalize w2.heap.size=br at *
 have HBB:=znq hbb
 clear hbb
 cases wanted with
 | false =>
  go_wp2_with (first | (refine (HS.znr.get 2 rfl).mP rfl rfl rfl zc HLM.znr ?_) | (refine (HS.znr.get 0 rfl).mM rfl rfl rfl rfl zc (by simp [zd]) HLM.znr (zg _) ?_))
  intro w4 hb4 ho4
  go_wp2
  refine hb4.result rfl rfl rfl zc HLM.znr ⟨rfl,?_⟩
  rw [HBB.znr]
  exact zk HS.znr.bel ho4 (by omega)
 | true =>
  go_wp2_with fail
  refine zn [0,1,2,3,4] (by kernel_rfl) (by kernel_rfl) ?_
  rintro w4 rfl
  refine mqR ?_
  refine zi rfl rfl (by rfl) (fun K hK=>?_)
  go_simp
  refine (j1 _ _ 16 16 16 16 a b _ HLA.znr HLB.znr (by omega) (by omega) (HS.znr.drew.get 2 rfl).lies (HS.znr.drew.get 1 rfl).lies).mono ?_
  rintro e w5 ⟨v5,rfl,hown5,mX⟩
  obtain ⟨ao5,cap5,rfl,_,_,hl5⟩:=zw hown5
  have HS:=znq (HS.znr.drew.later mX)
  have HL5:=znq hl5
  clear hown5 hl5
  simp only [id]
  go_simp
  refine hK _ _ mX ?_
  clear hK K mX
  refine zi rfl rfl (by rfl) (fun K hK=>?_)
  go_simp
  refine (yQ ao5 (min 16 16) cap5 (nX a b) _ (by rw [mW,HLA.znr,HLB.znr]) HL5.znr).mono ?_
  rintro e w6 ⟨rfl,mQ⟩
  have HS:=znq (HS.znr.later mQ)
  rw [HBX.znr]
  go_simp
  refine hK _ _ mQ ?_
  clear hK K mQ
  refine zp rfl rfl (by rfl) (fun K hK=>?_)
  refine (HS.znr.get 0 rfl).mZ rfl rfl rfl zc (by rw [yf];exact zd 16) (by rw [yf];exact zB _ _) (zg _) (fun w7 hb7 ho7=>hK _ _ ?_)
  clear hK K
  have ny:=zk HS.znr.bel ho7 (by omega)
  go_simp
  refine zo ?_
  go_wp2
  refine hb7.result rfl rfl rfl zc (by rw [yf];exact zB _ _) ⟨rfl,?_⟩
  rw [HBB.znr]
  exact ny
theorem Yj (n:UInt64) (a:List UInt8) (w:World) (ha:a.length=16):Calls Tryz.prog 250 #[L n,.agg (a.map B).toArray] w fun e w'=>e=.returned (.agg ((multiple n a).map B).toArray)∧Below w.heap.size w w':=by
 have HLA:=znq ha
 have HLM:=znq (show (a.map B).length=16 by rw [yf];exact ha)
 have HS:=znq (St.start w)
 clear ha
 go_enter Tryz.func250,Tryz.ntmps250
 go_wp2_with (refine zh 59 _ (a.map B) _ rfl rfl rfl rfl ?_)
 intro w1 hb hbel;have HS:=znq (HS.znr.push hb hbel);have hlt1:=hb.lt;clear hb hbel
 go_wp2_with (refine ze 59 ((zf 16).map B) _ rfl rfl zj rfl ?_)
 intro w2 hb hbel;have HS:=znq (HS.znr.push hb hbel);have hlt2:=hb.lt;clear hb hbel
 go_wp2_with (refine ze 59 ((zf 16).map B) _ rfl rfl zj rfl ?_)
 intro w3 hb hbel;have HS:=znq (HS.znr.push hb hbel);have hlt3:=hb.lt;clear hb hbel
 generalize hbb:w.heap.size=bb at *
 generalize w1.heap.size=br at *
 generalize w2.heap.size=bo at *
 have HBB:=znq hbb
 clear hbb
 have HN:=znq (show n.toNat < 2 ^ 64 from n.toNat_lt)
 go_wp2
 go_loopw [0] (fun c wr=>∃ (k:Nat) (m:UInt64) (out x:List UInt8),c=L m∧Hid (m.toNat < 2 ^ k)∧Hid (out.length=16)∧Hid (x.length=16)∧Hid (Q5 k m out x=multiple n a)∧Hid (St w bb wr [(bo,out.map B,59),(br,(zf 16).map B,59),(bb,x.map B,59)])) (fun c _=>(intOf c).toNat)
 case atStart=>exact ⟨64,n,zf 16,a,rfl,HN,zd 16,HLA,rfl,HS⟩
 case round =>
  clear HS HLA HLM HN
  obtain ⟨k,m,out,x,rfl,HK,HO,HX,HE,HS⟩:=hrel
  have HOM:=znq (show (out.map B).length=16 by rw [yf];exact HO.znr)
  have HXM:=znq (show (x.map B).length=16 by rw [yf];exact HX.znr)
  by_cases h0:m.toNat=0
  ·have hd:m.toNat≤0:=by omega
   have HMN:=znq (show out=multiple n a by
    rw [← HE.znr]
    cases k with
    | zero=>rfl
    | succ k=>unfold Q5;rw [if_pos h0])
   clear h0
   go_wp2_with (first | (refine (HS.znr.get 0 rfl).mP rfl rfl rfl zc HOM.znr ?_) | (refine (HS.znr.get 1 rfl).mM rfl rfl rfl rfl zc (by simp [zd]) HOM.znr (zg _) ?_))
   intro w5 hb5 ho5
   go_wp2
   refine hb5.result rfl rfl rfl zc HOM.znr ⟨by rw [HMN.znr],?_⟩
   rw [HBB.znr]
   exact zk HS.znr.bel ho5 (by omega)
  ·have hd:0 < m.toNat:=by omega
   have HN0:=znq h0
   clear h0
   go_wp2_with (first | (refine (HS.znr.get 0 rfl).mP rfl rfl rfl zc HOM.znr ?_) | (refine (HS.znr.get 2 rfl).mP rfl rfl rfl zc HXM.znr ?_))
   refine (zjl out x (((xk m 1).toNat:Int)==1) _ HO.znr HX.znr).mono ?_
   rintro e w4 ⟨rfl,nD⟩
   have HS:=znq (HS.znr.later nD)
   have HSL:=znq (XU out x (((xk m 1).toNat:Int)==1) HO.znr)
   have HSLM:=znq (show ((zaH out x (((xk m 1).toNat:Int)==1)).map B).length=16 by rw [yf];exact HSL.znr)
   obtain ⟨j,rfl⟩:∃ j,k=j+1:=by
    have:=HK.znr
    have h:=HN0.znr
    rcases k with _ | k
    ·simp at this;omega
    ·exact ⟨k,rfl⟩
   have HE:=znq (show Q5 j (yp m 1) (zaH out x (((xk m 1).toNat:Int)==1)) (rV x)=multiple n a by rw [← HE.znr,Q5,if_neg HN0.znr])
   generalize zaH out x (((xk m 1).toNat:Int)==1)=out2 at *
   clear nD
   go_wp2_with (refine (HS.znr.get 0 rfl).mM rfl rfl rfl rfl zc HOM.znr HSLM.znr (zg _) ?_)
   intro w5 hb5 ho5
   have HS:=znq (HS.znr.change 0 hb5 ho5 (by omega) (by simp;omega))
   clear hb5 ho5
   go_wp2_with (refine (HS.znr.get 2 rfl).mP rfl rfl rfl zc HXM.znr ?_)
   refine (Q8 x _ HX.znr).mono ?_
   rintro e w6 ⟨rfl,mQ⟩
   have HS:=znq (HS.znr.later mQ)
   have HDL:=znq (vf x)
   have zjR:=znq (show ((rV x).map B).length=16 by rw [yf];exact HDL.znr)
   generalize rV x=x2 at *
   clear mQ
   go_wp2_with (refine (HS.znr.get 2 rfl).mM rfl rfl rfl rfl zc HXM.znr zjR.znr (zg _) ?_)
   intro w7 hb7 ho7
   have HS:=znq (HS.znr.change 2 hb7 ho7 (by omega) (by simp;omega))
   clear hb7 ho7
   have hsh:(yp m 1).toNat=m.toNat / 2:=KG m
   have HK2:=znq (show (yp m 1).toNat < 2 ^ j by rw [hsh];have:=HK.znr;rw [Nat.pow_succ] at this;omega)
   have HLT:=znq (show (yp m 1).toNat < m.toNat by omega)
   clear hsh
   go_wp2_with fail
   go_roundw
   case rel=>exact ⟨j,yp m 1,out2,x2,rfl,HK2,HSL,HDL,HE,HS⟩
   case measure=>have:=HLT.znr;simp [intOf,L];omega
abbrev K9 (bb br bo:Nat) (us:Nat→Value):Act:={ tmps:=#[.int .i64 0,us 1,us 2,.pointer (some ⟨bb,0,none⟩),.pointer (some ⟨br,0,none⟩),.pointer (some ⟨bo,0,none⟩),us 6,us 7,us 8,us 9,us 10,us 11,us 12,us 13,us 14,us 15,us 16,us 17,us 18,us 19,us 20,us 21,us 22,us 23,us 24,us 25,us 26,us 27,us 28,us 29,us 30,us 31,us 32],defers:=[] }
def KK (n:Nat) (a:List UInt8) (bb br:Nat) (w:World) (x:Act) (wr:World):Prop :=
 ∃ (us:Nat→Value) (bo:Nat),x=K9 bb br bo us∧Hid (Below bb w wr)∧Hid (Blk wr bb ((pF n a).map B) 59)∧Hid (Blk wr br ((zf 16).map B) 59)
theorem KK.intro {n:Nat} {a:List UInt8} {bb br:Nat} {w:World} {x:Act} {wr:World} (bo:Nat) (hx:x=K9 bb br bo (fun i=>x.tmps.getD i undef)) (h1:Below bb w wr) (h2:Blk wr bb ((pF n a).map B) 59) (h3:Blk wr br ((zf 16).map B) 59):KK n a bb br w x wr :=
 ⟨_,bo,hx,h1,h2,h3⟩
theorem zgt (n:Nat) (a:List UInt8) (w:World) (ha:a.length=16) (hn:n < 128):Calls Tryz.prog 266 #[.int .i64 n,.agg (a.map B).toArray] w fun e w'=>e=.returned (.agg ((pF n a).map B).toArray)∧Below w.heap.size w w':=by
 have HLA:=znq ha
 have HLM:=znq (show (a.map B).length=16 by rw [yf];exact ha)
 have HS:=znq (St.start w)
 clear ha
 go_enter Tryz.func266,Tryz.ntmps266
 go_wp2_with (refine zh 59 _ (a.map B) _ rfl rfl rfl rfl ?_)
 intro w1 hb hbel;have HS:=znq (HS.znr.push hb hbel);have hlt1:=hb.lt;clear hb hbel
 go_wp2_with (refine ze 59 ((zf 16).map B) _ rfl rfl zj rfl ?_)
 intro w2 hb hbel;have HS:=znq (HS.znr.push hb hbel);have hlt2:=hb.lt;clear hb hbel
 generalize hbb:w.heap.size=bb at *
 generalize w1.heap.size=br at *
 have HBB:=znq hbb
 clear hbb
 have hm:(n:Int) % 128=n:=by omega
 have hd0:decide ((n:Int) < 0)=false:=by simp
 go_wp2_with fail
 refine yd 0 (KK n a bb br w) (fun _ _=>0) rfl ?_ ?_
 ·simp only [q9]
  go_wp2_with fail
  rw [hm]
  go_loopw [11] (fun c wr=>∃ (k:Nat) (x:List UInt8),k≤n∧c=.int .i64 k∧Hid (x.length=16)∧Hid (pF (n - k) x=pF n a)∧Hid (St w bb wr [(br,(zf 16).map B,59),(bb,x.map B,59)])) (fun c _=>n - (intOf c).toNat)
  case atStart=>exact ⟨0,a,by omega,rfl,HLA,rfl,HS⟩
  case round =>
   clear HS HLA HLM
   obtain ⟨k,x,hk,rfl,HX,HE,HS⟩:=hrel
   have HXM:=znq (show (x.map B).length=16 by rw [yf];exact HX.znr)
   by_cases hlt:k < n
   ·go_wp2_with (refine (HS.znr.get 1 rfl).mP rfl rfl rfl zc HXM.znr ?_)
    refine (Q8 x _ HX.znr).mono ?_
    rintro e w6 ⟨rfl,mQ⟩
    have HS:=znq (HS.znr.later mQ)
    have HDL:=znq (vf x)
    have zjR:=znq (show ((rV x).map B).length=16 by rw [yf];exact HDL.znr)
    have HE:=znq (show pF (n - (k+1)) (rV x)=pF n a by rw [← HE.znr,show n - k=(n - (k+1))+1 by omega,pF])
    generalize rV x=x2 at *
    clear mQ
    go_wp2_with (refine (HS.znr.get 1 rfl).mM rfl rfl rfl rfl zc HXM.znr zjR.znr (zg _) ?_)
    intro w7 hb7 ho7
    have HS:=znq (HS.znr.change 1 hb7 ho7 (by omega) (by simp;omega))
    clear hb7 ho7
    go_wp2_with fail
    go_roundw
    case rel=>exact ⟨k+1,x2,by omega,by go_num,HDL,HE,HS⟩
    case measure=>simp [intOf];omega
   ·obtain rfl:k=n:=by omega
    have HE:=znq (show x=pF k a by rw [← HE.znr,l5];rfl)
    have hq:(k:Int) / 128=0:=by omega
    go_wp2_with (refine ze 59 ((zf 16).map B) _ rfl rfl zj rfl ?_)
    intro w3 hb hbel;have hz1:=(HS.znr.get 0 rfl).lt;have hz0:=(HS.znr.get 1 rfl).lt;have HS:=znq (HS.znr.push hb hbel);have hlt3:=hb.lt;clear hb hbel
    generalize wr.heap.size=bo at *
    go_wp2_with (refine (HS.znr.get 0 rfl).mM rfl rfl rfl (cs:=(zf 15++[135]).map B) rfl zc (by simp [zd]) (by simp [zd]) (zg _) ?_)
    intro w4 hb4 ho4
    have HS:=znq (HS.znr.change 0 hb4 ho4 (by omega) (by simp;omega))
    clear hb4 ho4
    go_wp2_with fail
    rw [HE.znr] at HS
    exact KK.intro bo rfl HS.znr.bel (HS.znr.get 2 rfl) (HS.znr.get 1 rfl)
 ·rintro x wr ⟨us,bo,rfl,HB,HX,HR⟩
  have HXM:=znq (show ((pF n a).map B).length=16 by rw [yf];exact vI _ _ HLA.znr)
  go_wp2_with (first | (refine HX.znr.mP rfl rfl rfl zc HXM.znr ?_) | (refine HR.znr.mM rfl rfl rfl rfl zc (by simp [zd]) HXM.znr (zg _) ?_))
  intro w5 hb5 ho5
  go_wp2
  rw [Exit.nZ]
  refine hb5.result rfl rfl rfl zc HXM.znr ⟨rfl,?_⟩
  rw [HBB.znr]
  exact zk HB.znr ho5 (by omega)
end Go.Proofs.YtamdifhibogdiaaGreatDoor
namespace Go.Cells
theorem St.tail {w0 w:World} {base:Nat} {e:Nat×List Value×TypeId} {L:List (Nat×List Value×TypeId)} (h:St w0 base w (e::L)):St w0 base w L:=⟨h.nW,h.bel,fun x hx=>h.all x (List.mem_cons_of_mem _ hx)⟩
theorem St.sub {w0 w:World} {base:Nat} {L L':List (Nat×List Value×TypeId)} (h:St w0 base w L) (hs:∀ e∈L',e∈L):St w0 base w L':=⟨h.nW,h.bel,fun x hx=>h.all x (hs x hx)⟩
end Go.Cells
namespace Go.Proofs.YtamdifhibogdiaaGreatDoor
open RowKit Mem Ops Cells Oct Gf Trn Aes Ring
attribute [local irreducible] zE zN zO zM yu
theorem kO {a b l:List UInt8} {j:Nat} (hlt:j < 16) (hl:l.length=16) (h1:∀ i,i < j→l[i]? = some (ya (at8 a i) (at8 b i))) (h2:∀ i,j≤i→l[i]? = a[i]?) :
  (∀ i,i < j+1→(l.set j (ya (at8 a j) (at8 b j)))[i]? = some (ya (at8 a i) (at8 b i)))∧(∀ i,j+1≤i→(l.set j (ya (at8 a j) (at8 b j)))[i]? = a[i]?):=by
 refine ⟨fun i hi=>?_,fun i hi=>?_⟩
 ·rw [List.getElem?_set]
  by_cases e:j=i
  ·subst e;simp [hl,hlt]
  ·rw [if_neg e];exact h1 i (by omega)
 ·rw [List.getElem?_set_ne (by omega)]
  exact h2 i (by omega)
theorem YN {a b l:List UInt8} (hl:l.length=16) (h1:∀ i,i < 16→l[i]? = some (ya (at8 a i) (at8 b i))):l=both a b:=yg.all (f:=fun i=>ya (at8 a i) (at8 b i)) ⟨hl,h1⟩
theorem k8 (ks:List (List UInt8)) (x:List UInt8) (hx:x.length=16):(ks.foldl both x).length=16:=by
 induction ks generalizing x with
 | nil=>exact hx
 | cons k r ih=>exact ih _ (zB _ _)
theorem QL (x:List UInt8) (ao:Option Addr) (n cap:Nat) (ks:List (List UInt8)) (w:World) (hx:x.length=16) (hn:ks.length=n) (hnb:n≤1099511627776) (hk:yB 16 w ao ks) :
  Calls Tryz.prog 247 #[.agg (x.map B).toArray,.slice ao n cap] w fun e w'=>e=.returned (.agg ((ks.foldl both x).map B).toArray)∧Below w.heap.size w w':=by
 have HX:=znq hx
 have HXM:=znq (show (x.map B).length=16 by rw [yf];exact hx)
 have HN:=znq hn
 have HK:=znq hk
 have HS:=znq (St.start w)
 clear hx hn hk
 go_enter Tryz.func247,Tryz.ntmps247
 go_wp2_with (refine zh 59 _ (x.map B) _ rfl rfl rfl rfl ?_)
 intro w1 hb hbel;have HS:=znq (HS.znr.push hb hbel);have hlt1:=hb.lt;clear hb hbel
 go_wp2_with (refine ze 59 ((zf 16).map B) _ rfl rfl zj rfl ?_)
 intro w2 hb hbel;have HS:=znq (HS.znr.push hb hbel);have hlt2:=hb.lt;clear hb hbel
 generalize hbb:w.heap.size=bb at *
 generalize w1.heap.size=br at *
 have HBB:=znq hbb
 clear hbb
 go_wp2
 go_loopw [10] (fun c wr=>∃ (i:Nat) (y:List UInt8),i≤n∧c=.int .i64 i∧Hid (y.length=16)∧Hid ((ks.drop i).foldl both y=ks.foldl both x)∧Hid (St w bb wr [(br,(zf 16).map B,59),(bb,y.map B,59)])) (fun c _=>n - (intOf c).toNat)
 case atStart=>exact ⟨0,x,by omega,rfl,HX,rfl,HS⟩
 case round =>
  clear HS HX HXM
  obtain ⟨i,y,hi,rfl,HY,HE,HS⟩:=hrel
  have HYM:=znq (show (y.map B).length=16 by rw [yf];exact HY.znr)
  by_cases hlt:i < n
  ·have hget:ks[i]? = some (key ks i):=kB (by rw [HN.znr];exact hlt)
   obtain ⟨kb,nI,rfl,hkb,hr⟩:=(HK.znr.below (by rw [HBB.znr];exact HS.znr.bel)).range (by omega) hget
   have HKL:=znq (show (key ks i).length=16 from HK.znr.each _ (xU hget))
   have tY:=znq (show ((key ks i).map B).length=16 by rw [yf];exact HKL.znr)
   have HE:=znq (show (ks.drop (i+1)).foldl both (both y (key ks i))=ks.foldl both x by
    rw [← HE.znr,List.drop_eq_getElem_cons (l:=ks) (i:=i) (by rw [HN.znr];exact hlt),List.foldl_cons]
    congr 2
    have:=List.getElem?_eq_getElem (l:=ks) (i:=i) (by rw [HN.znr];exact hlt)
    rw [hget] at this
    exact Option.some.inj this)
   have HR:=znq hr
   generalize key ks i=k at *
   clear hget hr
   go_wp2_with (first | (refine wpList_load_mid rfl 59 (.tmp 12) rfl kb (nI+i*16) rfl _ _ HR.znr Tryz.underlying59 rfl (by rw [tY.znr];exact zc.2) ?_) | (refine ze 59 ((zf 16).map B) _ rfl rfl zj rfl ?_))
   intro w3 hb hbel;have hz1:=(HS.znr.get 0 rfl).lt;have hz0:=(HS.znr.get 1 rfl).lt;have HS:=znq (HS.znr.push hb hbel);have hlt3:=hb.lt;clear hb hbel
   generalize wr.heap.size=bk at *
   go_wp2_with (refine (HS.znr.get 0 rfl).mM rfl rfl rfl rfl zc (by simp [zd]) tY.znr (zg _) ?_)
   intro w4 hb4 ho4
   have HS:=znq (HS.znr.change 0 hb4 ho4 (by omega) (by simp;omega))
   clear hb4 ho4
   go_wp2
   go_loopw [14] (fun c wr=>∃ (j:Nat) (l:List UInt8),j≤16∧c=.int .i64 j∧Hid (l.length=16)∧Hid (∀ i,i < j→l[i]? = some (ya (at8 y i) (at8 k i)))∧Hid (∀ i,j≤i→l[i]? = y[i]?)∧Hid (St w bb wr [(bk,k.map B,59),(br,(zf 16).map B,59),(bb,l.map B,59)])) (fun c _=>16 - (intOf c).toNat)
   case atStart=>exact ⟨0,y,by omega,rfl,HY,fun i hi=>absurd hi (by omega),fun i _=>rfl,HS⟩
   case round =>
    clear HS
    obtain ⟨j,l,hj,rfl,HLL,HL1,HL2,HS⟩:=hrel
    by_cases hlt2:j < 16
    ·have hd:decide ((j:Int) < 16)=true:=by simp;omega
     have hx:l[j]? = some (at8 y j):=by rw [HL2.znr j (xc _)];exact q4 (by rw [HY.znr];omega)
     have hc1:=fun (x:zG wr.drew)=>((HS.znr.drew.later x.later).get 2 rfl).cell j _ (zU hx)
     have hc2:=fun (x:zG wr.drew)=>((HS.znr.drew.later x.later).get 0 rfl).cell j _ (zU (q4 (b:=k) (i:=j) (by rw [HKL.znr];omega)))
     clear hx
     go_wp2_with fail
     refine zn [0,1,2,3,4,5,6,7,8] (by kernel_rfl) (by kernel_rfl) ?_
     rintro w5 rfl
     refine mqR ?_
     clear hc1 hc2
     refine zp rfl rfl (by rfl) (fun K hK=>?_)
     refine (HS.znr.drew.get 2 rfl).nO (v:=B (ya (at8 y j) (at8 k j))) rfl rfl rfl zl rfl rfl (by rw [yf,HLL.znr];omega) (fun w6 hb6 ho6=>hK _ _ ?_)
     clear hK K
     rw [ym] at hb6
     have HS:=znq (HS.znr.drew.change 2 hb6 ho6 (by omega) (by simp;omega))
     clear ho6 hb6
     go_simp
     refine zo ?_
     go_wp2
     go_roundw
     case rel=>exact ⟨j+1,_,by omega,rfl,(by rw [List.length_set];exact HLL.znr),(kO hlt2 HLL.znr HL1.znr HL2.znr).1,(kO hlt2 HLL.znr HL1.znr HL2.znr).2,HS⟩
     case measure=>simp [intOf];omega
    ·obtain rfl:j=16:=by omega
     have hle:=YN HLL.znr HL1.znr
     rw [hle] at HS
     have HS:=znq HS.znr.tail
     clear hle
     go_wp2
     go_roundw
     case rel=>exact ⟨i+1,_,by omega,by go_num,zB _ _,HE,HS⟩
     case measure=>simp [intOf];omega
  ·obtain rfl:i=n:=by omega
   have HE:=znq (show y=ks.foldl both x by rw [← HE.znr,List.drop_eq_nil_of_le (by rw [HN.znr];omega)];rfl)
   go_wp2_with (first | (refine (HS.znr.get 1 rfl).mP rfl rfl rfl zc HYM.znr ?_) | (refine (HS.znr.get 0 rfl).mM rfl rfl rfl rfl zc (by rw [yf];exact zd 16) HYM.znr (zg _) ?_))
   intro w6 hb6 ho6
   have mQ:=zk HS.znr.bel ho6 (by omega)
   go_wp2
   refine hb6.result rfl rfl rfl zc HYM.znr ⟨by rw [HE.znr],?_⟩
   rw [HBB.znr]
   exact mQ
end Go.Proofs.YtamdifhibogdiaaGreatDoor

/-
  Texts of this claim, one behind the other.
-/
import Derived.Test.YtamdifhibogdiaaGreatDoorX1
import Derived.Test.YtamdifhibogdiaaGreatDoorX13
import Derived.Lib.Hide
set_option linter.unusedVariables false
set_option linter.unusedSimpArgs false
set_option maxHeartbeats 16000000
set_option maxRecDepth 100000
open Array renaming replicate→uS
open List renaming all_eq_true→WI,contains_iff_mem→uw,eq_nil_of_length_eq_zero→uG,filter_cons_of_neg→uu,filter_cons_of_pos→uq,filter_eq_nil_iff→bS,filter_eq_self→dV,length_cons→uh,length_map→yf,mem_filter→uK,take_left→bX
open Nat renaming le_refl→xc
namespace Go
open RowKit
section
variable {P:Program} {ops:Array Oper} {Q:Exit→Act→World→Prop} {md:Region.Mode} {R:World→World→Prop} {brk:List Nat}
theorem Kl:∀ (n m:Nat) (listed:Array Bool) (a:Act) (w:World),n≤m→qj R brk P md ops Q n listed a w→qj R brk P md ops Q m listed a w
 | 0,0,_,_,_,_,h=>h
 | 0,m+1,_,_,_,_,h=>⟨fun _=>h.2,fun i hi=>by rw [h.1] at hi;cases hi⟩
 | n+1,0,_,_,_,hm,_=>absurd hm (by omega)
 | n+1,m+1,_,_,_,hm,h=>⟨h.1,fun i hi=>wpOp_mono (fun a w h'=>⟨h'.1,Kl n m _ a w (by omega) h'.2⟩) (h.2 i hi)⟩
theorem XI {C C':Act→World→Prop} (hc:∀ a w,C a w→C' a w):∀ (order:List Nat) (a:Act) (w:World),qM R P ops C order a w→qM R P ops C' order a w
 | [],a,w,h=>hc a w h
 | i::r,a,w,h=>by
  unfold qM at h ⊢
  cases ho:ops[i]? with
  | none=>rw [ho] at h;exact h
  | some o =>
   simp only [ho] at h ⊢
   by_cases hw:Region.wanted o (yielded ops a.tmps)=true
   ·rw [if_pos hw] at h ⊢
    obtain ⟨v,hv,hr⟩:=h
    exact ⟨v,hv,XI hc r _ _ hr⟩
   ·rw [if_neg hw] at h ⊢
    exact XI hc r _ _ h
theorem Yw (M:List Nat) (need:List (Nat×List Nat)) (I:(Nat→Bool)→Act→World→Prop) (listed:Array Bool) (N:Nat) (hc:Region.sw md ops M need listed=true)
  (hstep:∀ D a w k,k∈M→D k=false→(∀ d∈yE need k,D d=true)→I D a w→wpOp P ops Q k (fun a' w'=>(brk.contains k=false→R w w')∧I (fun j=>D j || j==k) a' w') a w)
  (hend:∀ a w fuel,N≤fuel→I (fun j=>M.contains j) a w→qj R brk P md ops Q fuel (Region.plus listed M) a w) :
  ∀ (n:Nat) (D:Nat→Bool) (a:Act) (w:World) (fuel:Nat),(M.filter fun j=>!D j).length≤n→(∀ j,D j=true→j∈M)→(∀ j,D j=true→∀ d∈yE need j,D d=true)→I D a w→n+N≤fuel→qj R brk P md ops Q fuel (Region.plus listed (M.filter D)) a w
 | 0,D,a,w,fuel,hn,hD,hcl,hI,hf=>by
  have hall:∀ j∈M,D j=true:=by
   intro j hj
   have h0:=uG (Nat.le_zero.1 hn)
   rw [bS] at h0
   have:=h0 j hj
   simpa using this
  have e1:M.filter D=M:=dV.2 hall
  have e2:D=fun j=>M.contains j:=by
   funext j
   rw [Bool.eq_iff_iff,uw]
   exact ⟨hD j,hall j⟩
  rw [e1]
  exact hend a w fuel (by omega) (e2 ▸ hI)
 | n+1,D,a,w,fuel,hn,hD,hcl,hI,hf=>by
  by_cases h0:(M.filter fun j=>!D j).length=0
  ·exact Yw M need I listed N hc hstep hend 0 D a w fuel (by omega) hD hcl hI (by omega)
  obtain ⟨f,rfl⟩:∃ f,fuel=f+1:=⟨fuel - 1,by omega⟩
  unfold Region.sw at hc
  rw [WI] at hc
  have hS:=hc _ (XH D M)
  rw [Bool.or_eq_true,Bool.or_eq_true] at hS
  rcases hS with (hS | hS) | hS
  ·exfalso
   have e:M.filter D=M:=by simpa using hS
   have hall:=dV.1 e
   have h1:M.filter (fun j=>!D j)=[]:=by
    rw [bS]
    intro j hj
    simp [hall j hj]
   exact h0 (by rw [h1];rfl)
  ·exfalso
   have:((M.filter D).all fun k=>(yE need k).all fun d=>(M.filter D).contains d)=true:=by
    rw [WI]
    intro k hk
    rw [WI]
    intro d hd
    have hk':=(uK.1 hk).2
    have hd':=hcl k hk' d hd
    rw [uw]
    exact uK.2 ⟨hD d hd',hd'⟩
   rw [this] at hS
   cases hS
  ·rw [Bool.and_eq_true,WI] at hS
   obtain ⟨h1,h2⟩:=hS
   refine ⟨fun h=>(by rw [h] at h1;simp at h1),fun k hk=>?_⟩
   have hk2:=h2 k hk
   simp only [Bool.and_eq_true,uw,WI,Bool.not_eq_true'] at hk2
   obtain ⟨⟨hkM,hkS⟩,rf⟩:=hk2
   have hDk:D k=false:=by
    cases hd:D k with
    | false=>rfl
    | true =>
     rw [← uw] at hkM
     have:(M.filter D).contains k=true:=by simp [hd];simpa using hkM
     rw [this] at hkS;cases hkS
   refine wpOp_mono (fun a' w' h'=>⟨h'.1,?_⟩) (hstep D a w k hkM hDk (fun d hd=>by have:=rf d hd;rw [uK] at this;exact this.2) hI)
   rw [← Wl listed M D k hkM]
   refine Yw M need I listed N (by unfold Region.sw;rw [WI];exact hc) hstep hend n _ a' w' f ?_ ?_ ?_ h'.2 (by omega)
   ·-- one less
    have key:∀ (l:List Nat),k∈l→(l.filter fun j=>!(D j || j==k)).length < (l.filter fun j=>!D j).length:=by
     intro l
     induction l with
     | nil=>intro h;cases h
     | cons x r ih =>
      intro hm
      have hle:∀ (l:List Nat),(l.filter fun j=>!(D j || j==k)).length≤(l.filter fun j=>!D j).length:=by
       intro l
       induction l with
       | nil=>simp
       | cons y s ih2 =>
        by_cases hy:D y=true
        ·rw [uu (by simp [hy]),uu (by simp [hy])];exact ih2
        ·by_cases hyk:y=k
         ·rw [uu (by simp [hyk]),uq (by simp [hy])];simp only [uh];omega
         ·rw [uq (by simp [hy,hyk]),uq (by simp [hy])];simp only [uh];omega
      by_cases hx:x=k
      ·subst hx
       rw [uu (by simp),uq (by simp [hDk]),uh]
       exact Nat.lt_succ_of_le (hle r)
      ·have hr:k∈r:=by
        rcases List.mem_cons.1 hm with h | h
        ·exact absurd h.symm hx
        ·exact h
       have:=ih hr
       by_cases hdx:D x=true
       ·rw [uu (by simp [hdx]),uu (by simp [hdx])];exact this
       ·rw [uq (by simp [hdx,hx]),uq (by simp [hdx])];simp only [uh];omega
    have:=key M hkM
    omega
   ·intro j hj
    simp only [Bool.or_eq_true,beq_iff_eq] at hj
    rcases hj with hj | rfl
    ·exact hD j hj
    ·exact hkM
   ·intro j hj d hd
    simp only [Bool.or_eq_true,beq_iff_eq] at hj ⊢
    left
    rcases hj with hj | rfl
    ·exact hcl j hj d hd
    ·have:=rf d hd
     rw [uK] at this
     exact this.2
theorem jS {id:Nat} {l:List Oper} {a:Act} {w:World} (R:World→World→Prop) (brk:List Nat) (s0 M:List Nat) (s2:List (Nat×Bool)) (need:List (Nat×List Nat)) (I:(Nat→Bool)→Act→World→Prop) (hrf:∀ a,R a a) (ht:∀ a b c,R a b→R b c→R a c) (hm:P.follows .mixedOrders=true)
  (hB:(Region.noSelect l.toArray && (s0.length+(M.length+s2.length)==l.length) && Region.zaB brk .any l.toArray s0 (uS l.length false) && Region.sw .any l.toArray M need (Region.after s0 (uS l.length false)) &&
   Region.sS brk .any l.toArray s2 (Region.plus (Region.after s0 (uS l.length false)) M))=true)
  (h:∀ w',w'=w.drew→qM R P l.toArray (fun a w1=>I (fun _=>false) a w1) s0 a w')
  (hstep:∀ D a w k,k∈M→D k=false→(∀ d∈yE need k,D d=true)→I D a w→wpOp P l.toArray (NoPanic Q) k (fun a' w'=>(brk.contains k=false→R w w')∧I (fun j=>D j || j==k) a' w') a w)
  (hend:∀ a w,I (fun j=>M.contains j) a w→yu R brk P l.toArray (NoPanic Q) s2 a w):(Code.region id l.toArray true).wp P Q a w:=by
 simp only [Bool.and_eq_true,beq_iff_eq] at hB
 obtain ⟨⟨⟨⟨hs,hl⟩,h0⟩,hI⟩,hR⟩:=hB
 refine Kk R brk s0 (M.length+s2.length) hrf ht hm (by simp only [Bool.and_eq_true,beq_iff_eq];exact ⟨⟨hs,hl⟩,h0⟩) (fun w' hw'=>?_)
 refine XI ?_ _ _ _ (h w' hw')
 intro a1 w1 h1
 have:=Yw (R:=R) (brk:=brk) (P:=P) (Q:=NoPanic Q) M need I _ s2.length hI hstep (fun a w fuel hf hk=>Kl _ _ _ _ _ hf (qk hrf ht hs (fun c a w hq=>hq) s2 _ a w hR (hend a w hk))) M.length (fun _=>false) a1 w1 (M.length+s2.length) (List.length_filter_le _ _) (by simp) (by simp) h1 (xc _)
 rw [show M.filter (fun _=>false)=[] from bS.2 (by simp)] at this
 exact this
end
end Go
namespace Go
open RowKit Mem Cells
section
variable {P:Program} {ops:Array Oper} {Q:Exit→Act→World→Prop} {R:World→World→Prop} {C:Act→World→Prop}
theorem qa {i:Nat} {r:List Nat} {o:Oper} {a:Act} {w:World} {ty:TypeId} {x:Operand} {b off n:Nat} {vs:List Value} (h:∀ w',R w w'→w'.rangeAt b off vs) (hr:Row P ty n) (hn:vs.length=n)
  (ho:ops[i]? = some o) (hg:o.guard=none) (hop:o.op=.load ty x) (hx:a.eval x=.pointer (some ⟨b,off,none⟩))
  (k:∀ K:Act→Prop,(∀ a',qM R P ops C r a' w→K a')→K (a.put o.dst (.agg vs.toArray))):qM R P ops C (i::r) a w:=by
 have hw:Region.wanted o (yielded ops a.tmps)=true:=by simp [Region.wanted,hg]
 simp only [qM,ho,hw,if_true]
 exact ⟨_,fun w' hw'=>wt hop hx hr hn (h w' hw'),k _ fun _ h=>h⟩
end
end Go
namespace Go.Cells
open RowKit Mem
theorem Blk.grown {w w':World} {o:Option Nat} {c:Nat} {vs:List Value} {ty:TypeId} (h:Blk w c vs ty) (hg:w.grownBy w' o) (hne:some c≠o):Blk w' c vs ty:=(hg.block c h.lt hne).trans h
theorem yw {w w':World} {o:Option Nat} (h:Below w.heap.size w w'):w.grownBy w' o:=⟨h.os,h.tape,h.output,h.size,fun k hk _=>h.block k hk⟩
theorem Km {w w':World} {c:Nat} (h:zI c w w'):w.grownBy w' (some c):=⟨h.os,h.tape,h.output,h.size,fun k hk hne=>h.block k hk (fun e=>hne (by rw [e]))⟩
theorem St.zdW {w0 w:World} {base:Nat} {L:List (Nat×List Value×TypeId)} (h:St w0 base w L):St w base w L:=⟨Nat.le_trans h.nW h.bel.size,Below.refl _ _,h.all⟩
theorem St.zcA {w0 w:World} {base:Nat} {L:List (Nat×List Value×TypeId)} (h:St w0 base w L) {B:Nat} (hB:B≤w.heap.size):St w B w L:=⟨hB,Below.refl _ _,h.all⟩
theorem St.rR {w0 w:World} {base:Nat} {L:List (Nat×List Value×TypeId)} (h:St w0 base w L):St w w.heap.size w L:=⟨xc _,Below.refl _ _,h.all⟩
theorem St.grown {w0 w w':World} {base:Nat} {o:Option Nat} {L:List (Nat×List Value×TypeId)} (h:St w0 base w L) (hg:w.grownBy w' o) (hob:∀ g,o=some g→base≤g) (hne:∀ e∈L,some e.1≠o):St w0 base w' L :=
 ⟨h.nW,h.bel.grown hg h.size (fun k hk=>hob k hk),fun e he=>(h.all e he).grown hg (hne e he)⟩
end Go.Cells
namespace Go.Proofs.YtamdifhibogdiaaGreatDoor
open RowKit Mem Ops Cells Oct Gf Trn Aes Ring Ezk Ezh Ezt Ezc ru Fl
attribute [local irreducible] zE zN zO zM yu qM
def PM (w:World) (pv:Value) (ps:y9) (o:Option Nat):Prop :=
 (∀ p∈ps,xO p)∧((pv=.slice none 0 0∧ps=[]∧o=none)∨∃ g cp tl,o=some g∧pv=.slice (some ⟨g,0,none⟩) ps.length cp∧Blk w g ((zV ps).map B++tl) 363)
theorem PM.later {w w':World} {pv:Value} {ps:y9} {o:Option Nat} (h:PM w pv ps o) (hb:Below w.heap.size w w'):PM w' pv ps o :=
 ⟨h.1,h.2.imp id fun ⟨g,cp,tl,e1,e2,e3⟩=>⟨g,cp,tl,e1,e2,e3.below hb e3.lt⟩⟩
theorem PM.only {w w':World} {pv:Value} {ps:y9} {o:Option Nat} {c:Nat} {vs:List Value} {ty:TypeId} (h:PM w pv ps o) (hc:Blk w c vs ty) (hne:(363:TypeId)≠ty) (ho:Only c w w'):PM w' pv ps o :=
 ⟨h.1,h.2.imp id fun ⟨g,cp,tl,e1,e2,e3⟩=>⟨g,cp,tl,e1,e2,e3.only ho (e3.ne' hc hne)⟩⟩
theorem PM.rows {w:World} {pv:Value} {ps:y9} {o:Option Nat} (h:PM w pv ps o):∃ ap cp,pv=.slice ap ps.length cp∧yB 32 w ap (ps.map JE):=by
 obtain ⟨hf,⟨rfl,rfl,_⟩ | ⟨g,cp,tl,_,rfl,hb⟩⟩:=h
 ·exact ⟨none,0,rfl,⟨by simp,zr.nil _ _⟩⟩
 ·refine ⟨_,cp,rfl,zev hf ?_⟩
  have:=hb.lies.take ((zV ps).map B).length
  rwa [bX] at this
theorem PM.one {w:World} {pv:Value} {ps:y9} {o:Option Nat} (h:PM w pv ps o):pv.oneCell'=true:=by
 obtain ⟨_,⟨rfl,_⟩ | ⟨g,cp,tl,_,rfl,_⟩⟩:=h <;> rfl
theorem Wm {w:World} {base:Nat} {pv:Value} {ps:y9} (hf:∀ p∈ps,xO p) (h:w.ownsRow base 363 32 pv ps.length ((zV ps).map B)) :
  ∃ o,PM w pv ps o∧∀ g,o=some g→base≤g∧g < w.heap.size:=by
 rcases h.2 with ⟨rfl,hn⟩ | ⟨g,cap,cur,rfl,hb,hg,h1,h2,h3,ht⟩
 ·exact ⟨none,⟨hf,.inl ⟨rfl,uG hn,rfl⟩⟩,fun g e=>by cases e⟩
 ·have hbl:Blk w g ((zV ps).map B++cur.toList.drop (ps.length*32)) 363:=by
   rw [← ht,List.take_append_drop]
   unfold Blk;rw [hg]
  exact ⟨some g,⟨hf,.inr ⟨g,cap,_,rfl,rfl,hbl⟩⟩,fun g' e=>by cases e;exact ⟨hb,hbl.lt⟩⟩
theorem wD {w w':World} {pv v:Value} {ps:y9} {o:Option Nat} {base size n:Nat} {e:TypeId} {xs:List Value} (h:w.ownsRow base e size v n xs) (hp:PM w pv ps o) (hne:e≠363) (hg:w.grownBy w' o):w'.ownsRow base e size v n xs:=by
 refine ⟨h.1,h.2.imp id ?_⟩
 rintro ⟨g,cap,cur,hv,hb,hh,rest⟩
 refine ⟨g,cap,cur,hv,hb,(hg.block g (Array.getElem?_eq_some_iff.1 hh).1 (fun e'=>?_)).trans hh,rest⟩
 obtain ⟨_,⟨_,_,rfl⟩ | ⟨g',cp,tl,rfl,_,hb'⟩⟩:=hp
 ·cases e'
 ·cases e'
  unfold Blk at hb'
  rw [hh] at hb'
  cases hb'
  exact hne rfl
theorem Wn {pv uv vv:Value} {x y y':List UInt8} (hx:x.length=16) (hy:y.length=16) (hy':y'.length=16):(z4 pv uv vv x y).take 19++y'.map B++(z4 pv uv vv x y).drop (19+(y'.map B).length)=z4 pv uv vv x y':=by
 have e1:(z4 pv uv vv x y).take 19=pv::uv::vv::x.map B:=by
  show pv::uv::vv::(x.map B++y.map B).take 16=_
  rw [show (16:Nat)=(x.map B).length by simp [hx],bX]
 rw [e1,List.drop_eq_nil_of_le (by rw [zY hx hy];simp [hy'])]
 simp [z4]
theorem Wo {pv uv vv:Value} {x y x':List UInt8} (hx:x.length=16) (hx':x'.length=16):(z4 pv uv vv x y).take 3++x'.map B++(z4 pv uv vv x y).drop (3+(x'.map B).length)=z4 pv uv vv x' y:=by
 have e1:(z4 pv uv vv x y).drop (3+(x'.map B).length)=y.map B:=by
  rw [show 3+(x'.map B).length=16+1+1+1 by simp [hx']]
  show (x.map B++y.map B).drop 16=_
  rw [show (16:Nat)=(x.map B).length by simp [hx],List.drop_left]
 rw [e1]
 rfl
theorem zhd (kp:Nat) (k:zv) (uv vv:Value) (x y:List UInt8) (w:World) :
  Calls Tryz.prog 240 #[.agg (z4 (.slice none 0 0) uv vv x y).toArray,.pointer (some ⟨kp,0,none⟩)] w fun e w'=>e=.returned (.agg ((zf 16).map B).toArray)∧Below w.heap.size w w':=by
 have HS:=znq (St.start w)
 obtain ⟨V,hV⟩:∃ V,V=z4 (.slice none 0 0) uv vv x y:=⟨_,rfl⟩
 have HVV:=znq (show V=z4 (.slice none 0 0) uv vv x y∧True from ⟨hV,trivial⟩)
 rw [← hV]
 clear hV
 go_enter Tryz.func240,Tryz.ntmps240
 go_wp2_with (refine zh 343 _ (V) _ rfl rfl rfl rfl ?_)
 intro w1 hb hbel;have HS:=znq (HS.znr.push hb hbel);have hlt1:=hb.lt;clear hb hbel
 go_wp2_with (refine ze 59 ((zf 16).map B) _ rfl rfl zj rfl ?_)
 intro w2 hb hbel;have HS:=znq (HS.znr.push hb hbel);have hlt2:=hb.lt;clear hb hbel
 go_wp2_with (refine ze 59 ((zf 16).map B) _ rfl rfl zj rfl ?_)
 intro w3 hb hbel;have HS:=znq (HS.znr.push hb hbel);have hlt3:=hb.lt;clear hb hbel
 generalize hbb:w.heap.size=bb at *
 generalize w1.heap.size=bw1 at *
 generalize w2.heap.size=bw2 at *
 have HBB:=znq hbb
 clear hbb
 have hc0:=(HS.znr.get 2 rfl).cell 0 (.slice none 0 0) (by rw [HVV.znr.1];rfl)
 go_wp2
 go_loopw [12] (fun c wr=>c=.int .i64 0∧Hid (St w bb wr [(bw2,(zf 16).map B,59),(bw1,(zf 16).map B,59),(bb,V,343)])) (fun c _=>0)
 case atStart=>exact ⟨rfl,HS⟩
 case round =>
  clear HS hc0
  obtain ⟨rfl,HS⟩:=hrel
  go_wp2_with (first | (refine (HS.znr.get 0 rfl).mP rfl rfl rfl zc (by simp [zd]) ?_) | (refine (HS.znr.get 1 rfl).mM rfl rfl rfl (cs:=(zf 16).map B) rfl zc (by rw [yf];exact zd 16) (by rw [yf];exact zd 16) (zg _) ?_))
  intro w6 hb6 ho6
  have mQ:=zk HS.znr.bel ho6 (by omega)
  go_wp2
  refine hb6.result rfl rfl rfl zc (by rw [yf];exact zd 16) ⟨rfl,by rw [HBB.znr];exact mQ⟩
theorem zey (kp:Nat) (k:zv) (uv vv:Value) (x y z:List UInt8) (w:World) (hz:z.length=16) :
  Calls Tryz.prog 242 #[.agg (z4 (.slice none 0 0) uv vv x y).toArray,.pointer (some ⟨kp,0,none⟩),.agg (z.map B).toArray] w fun e w'=>e=.returned (.agg ((zf 16).map B).toArray)∧Below w.heap.size w w':=by
 have HS:=znq (St.start w)
 obtain ⟨V,hV⟩:∃ V,V=z4 (.slice none 0 0) uv vv x y:=⟨_,rfl⟩
 have HVV:=znq (show V=z4 (.slice none 0 0) uv vv x y∧True from ⟨hV,trivial⟩)
 rw [← hV]
 clear hV hz
 go_enter Tryz.func242,Tryz.ntmps242
 go_wp2_with (refine zh 343 _ (V) _ rfl rfl rfl rfl ?_)
 intro w1 hb hbel;have HS:=znq (HS.znr.push hb hbel);have hlt1:=hb.lt;clear hb hbel
 go_wp2_with (refine zh 59 _ (z.map B) _ rfl rfl rfl rfl ?_)
 intro w2 hb hbel;have HS:=znq (HS.znr.push hb hbel);have hlt2:=hb.lt;clear hb hbel
 go_wp2_with (refine ze 59 ((zf 16).map B) _ rfl rfl zj rfl ?_)
 intro w3 hb hbel;have HS:=znq (HS.znr.push hb hbel);have hlt3:=hb.lt;clear hb hbel
 go_wp2_with (refine ze 59 ((zf 16).map B) _ rfl rfl zj rfl ?_)
 intro w4 hb hbel;have HS:=znq (HS.znr.push hb hbel);have zaE:=hb.lt;clear hb hbel
 generalize hbb:w.heap.size=bb at *
 generalize w1.heap.size=bw1 at *
 generalize w2.heap.size=bw2 at *
 generalize w3.heap.size=bw3 at *
 have HBB:=znq hbb
 clear hbb
 have hc0:=(HS.znr.get 3 rfl).cell 0 (.slice none 0 0) (by rw [HVV.znr.1];rfl)
 go_wp2
 go_loopw [16] (fun c wr=>c=.int .i64 0∧Hid (St w bb wr [(bw3,(zf 16).map B,59),(bw2,(zf 16).map B,59),(bw1,z.map B,59),(bb,V,343)])) (fun c _=>0)
 case atStart=>exact ⟨rfl,HS⟩
 case round =>
  clear HS hc0
  obtain ⟨rfl,HS⟩:=hrel
  go_wp2_with (first | (refine (HS.znr.get 0 rfl).mP rfl rfl rfl zc (by simp [zd]) ?_) | (refine (HS.znr.get 1 rfl).mM rfl rfl rfl (cs:=(zf 16).map B) rfl zc (by rw [yf];exact zd 16) (by rw [yf];exact zd 16) (zg _) ?_))
  intro w6 hb6 ho6
  have mQ:=zk HS.znr.bel ho6 (by omega)
  go_wp2
  refine hb6.result rfl rfl rfl zc (by rw [yf];exact zd 16) ⟨rfl,by rw [HBB.znr];exact mQ⟩
theorem Wp (kp q p:Nat) (k:zv) (pv:Value) (ps:y9) (o:Option Nat) (uv vv:Value) (x y:List UInt8) (w:World) (hk:xH w kp q p k) (h:PM w pv ps o) (hb:ps.length≤900) :
  Calls Tryz.prog 240 #[.agg (z4 pv uv vv x y).toArray,.pointer (some ⟨kp,0,none⟩)] w fun e w'=>e=.returned (.agg ((qK k 0 (zf 16) ps).map B).toArray)∧PM w' pv (yh k 0 ps) o∧w.grownBy w' o:=by
 obtain ⟨hf,⟨rfl,rfl,rfl⟩ | ⟨g,cp,tl,rfl,rfl,hp⟩⟩:=h
 ·refine (zhd kp k uv vv x y w).mono ?_
  rintro e w' ⟨rfl,hbel⟩
  exact ⟨rfl,⟨by simp [yh],.inl ⟨rfl,rfl,rfl⟩⟩,yw hbel⟩
 ·refine (zj8 kp q p k g ps.length cp ps tl uv vv x y w hk rfl hf hp hb).mono ?_
  rintro e w' ⟨rfl,hb,ho⟩
  exact ⟨rfl,⟨Xz k _ _,.inr ⟨g,cp,tl,rfl,by rw [xF],hb⟩⟩,Km ho⟩
theorem JH (kp q p:Nat) (k:zv) (pv:Value) (ps:y9) (o:Option Nat) (uv vv:Value) (x y z:List UInt8) (w:World) (hk:xH w kp q p k) (h:PM w pv ps o) (hb:ps.length≤900) (hz:z.length=16) :
  Calls Tryz.prog 242 #[.agg (z4 pv uv vv x y).toArray,.pointer (some ⟨kp,0,none⟩),.agg (z.map B).toArray] w fun e w'=>e=.returned (.agg ((xN k z 0 (zf 16) ps).map B).toArray)∧PM w' pv (z6 k z 0 ps) o∧w.grownBy w' o:=by
 obtain ⟨hf,⟨rfl,rfl,rfl⟩ | ⟨g,cp,tl,rfl,rfl,hp⟩⟩:=h
 ·refine (zey kp k uv vv x y z w hz).mono ?_
  rintro e w' ⟨rfl,hbel⟩
  exact ⟨rfl,⟨by simp [z6],.inl ⟨rfl,rfl,rfl⟩⟩,yw hbel⟩
 ·refine (zhc kp q p k g ps.length cp ps tl uv vv x y z w hk rfl hf hz hp hb).mono ?_
  rintro e w' ⟨rfl,hb,ho⟩
  exact ⟨rfl,⟨wy k z _ _,.inr ⟨g,cp,tl,rfl,by rw [qm],hb⟩⟩,Km ho⟩
theorem wU (k:zv):∀ (n:Nat) (s:List UInt8) (ps:y9),s.length=16→(qK k n s ps).length=16
 | _,_,[],h=>h
 | n,s,p::r,_=>wU k (n+1) _ r (mO _)
theorem vS (k:zv) (z:List UInt8):∀ (n:Nat) (s:List UInt8) (ps:y9),s.length=16→(xN k z n s ps).length=16
 | _,_,[],h=>h
 | n,s,p::r,_=>vS k z (n+1) _ r (mO _)
theorem vw (k:zv) (u v:List UInt8):(kh k u v).length=16:=by
 unfold kh
 split
 ·exact zd 16
 ·split
  ·exact mO _
  ·exact yo _ _ _ _
structure TI (d2 d5 d6 d7 d8:Bool) (base:Nat) (w:World) (v2 v5 v6 v7 v8:Value) (A T S:List UInt8):Prop where
 r2:d2=true→v2=.agg (A.map B).toArray
 r5:d5=true→v5=.agg (T.map B).toArray
 r6:d6=true→∃ n,v6=.slice (some ⟨n,0,none⟩) 2 2∧yB 16 w (some ⟨n,0,none⟩) [A,T]∧d2=true
 r7:d7=true→v7=.agg (S.map B).toArray
 r8:d8=true→∃ n,v8=.pointer (some ⟨n,0,none⟩)∧base≤n∧Blk w n ((zf 16).map B) 59
section
variable {d2 d5 d6 d7 d8:Bool} {base:Nat} {w w':World} {v2 v5 v6 v7 v8:Value} {A T S:List UInt8}
theorem TI.nought:TI false false false false false base w v2 v5 v6 v7 v8 A T S:=⟨fun h=>(by cases h),fun h=>(by cases h),fun h=>(by cases h),fun h=>(by cases h),fun h=>(by cases h)⟩
theorem TI.later (h:TI d2 d5 d6 d7 d8 base w v2 v5 v6 v7 v8 A T S) (hb:Below w.heap.size w w'):TI d2 d5 d6 d7 d8 base w' v2 v5 v6 v7 v8 A T S :=
 ⟨h.r2,h.r5,fun x=>by obtain ⟨n,e,r,s⟩:=h.r6 x;exact ⟨n,e,r.below hb,s⟩,h.r7,fun x=>by obtain ⟨n,e,r,s⟩:=h.r8 x;exact ⟨n,e,r,s.below hb s.lt⟩⟩
theorem TI.s2 (h:TI false d5 d6 d7 d8 base w v2 v5 v6 v7 v8 A T S) {o:Option Nat} (ho:w.grownBy w' o) (hg:∀ g,o=some g→g < base):TI true d5 d6 d7 d8 base w' (.agg (A.map B).toArray) v5 v6 v7 v8 A T S :=
 ⟨fun _=>rfl,h.r5,fun x=>(by obtain ⟨n,e,r,s⟩:=h.r6 x;cases s),h.r7,fun x=>(by obtain ⟨n,e,r,s⟩:=h.r8 x;exact ⟨n,e,r,s.grown ho (fun e'=>by have:=hg n e'.symm;omega)⟩)⟩
theorem TI.s5 (h:TI d2 d5 d6 d7 d8 base w v2 v5 v6 v7 v8 A T S):TI d2 true d6 d7 d8 base w v2 (.agg (T.map B).toArray) v6 v7 v8 A T S:=⟨h.r2,fun _=>rfl,h.r6,h.r7,h.r8⟩
theorem TI.s6 (h:TI d2 d5 d6 d7 d8 base w v2 v5 v6 v7 v8 A T S) {n:Nat} (hr:yB 16 w (some ⟨n,0,none⟩) [A,T]) (hd:d2=true):TI d2 d5 true d7 d8 base w v2 v5 (.slice (some ⟨n,0,none⟩) 2 2) v7 v8 A T S:=⟨h.r2,h.r5,fun _=>⟨n,rfl,hr,hd⟩,h.r7,h.r8⟩
theorem TI.s7 (h:TI d2 d5 d6 d7 d8 base w v2 v5 v6 v7 v8 A T S):TI d2 d5 d6 true d8 base w v2 v5 v6 (.agg (S.map B).toArray) v8 A T S:=⟨h.r2,h.r5,h.r6,fun _=>rfl,h.r8⟩
theorem TI.s8 (h:TI d2 d5 d6 d7 d8 base w v2 v5 v6 v7 v8 A T S) (hB:base≤w.heap.size) (hbl:Blk w' w.heap.size ((zf 16).map B) 59) (hb:Below w.heap.size w w'):TI d2 d5 d6 d7 true base w' v2 v5 v6 v7 (.pointer (some ⟨w.heap.size,0,none⟩)) A T S:=by
 have h':=h.later hb
 exact ⟨h'.r2,h'.r5,h'.r6,h'.r7,fun _=>⟨_,rfl,hB,hbl⟩⟩
end
end Go.Proofs.YtamdifhibogdiaaGreatDoor

/-
  Texts of this claim, one behind the other.
-/
import Derived.Test.YtamdifhibogdiaaGreatDoorX1
import Derived.Test.YtamdifhibogdiaaGreatDoorX7
import Derived.Test.YtamdifhibogdiaaGreatDoorX8
import Derived.Test.YtamdifhibogdiaaGreatDoorX2
import Derived.Laws.Tables
import Derived.RangeFuncNested
import Derived.OrdersIn
import Derived.RangeFuncCalls
import Derived.RangeFuncLeaves
import Derived.Lib.Hide
set_option linter.unusedVariables false
set_option linter.unusedSimpArgs false
set_option maxHeartbeats 16000000
set_option maxRecDepth 100000
open List renaming append_assoc→QA,drop→dX,drop_drop→fF,drop_eq_nil_of_le→Yx,drop_left→cZ,eq_nil_of_length_eq_zero→uG,foldl_cons→fH,foldl_nil→l7,getElem?_eq_none→qc,length_append→q8,length_drop→XQ,length_map→yf,length_take→Ku,map_append→uI,mem_cons→uB,take→fT,take_append_drop→uX,take_left→bX,take_of_length_le→Y2
open Nat renaming le_refl→xc
namespace Go.Cells
open RowKit
theorem St.old {w0 w:World} {base:Nat} {L:List (Nat×List Value×TypeId)} (h:St w0 base w L) (e:w0.heap.size=base):Below w0.heap.size w0 w:=by rw [e];exact h.bel
end Go.Cells
namespace Go.Mem
open RowKit
theorem yv {P:Program} (w:World) (t e:TypeId) (size:Nat) (ht:P.underlying t=some (.slice e)) (hs:(P.info? e).map (·.size)=some 1) (ao:Option Addr) (len cap lo:Nat) (i:Int) (hi':i=lo) (h1:lo≤len) :
  (Instr.slice t (.slice ao len cap) (some (.int .i64 i)) none none).run P w=.ok (.slice (yy ao cap lo) (len - lo) (cap - lo)) w:=by
 subst hi'
 cases hq:P.info? e with
 | none=>rw [hq] at hs;cases hs
 | some x =>
  have hx:x.size=1:=by rw [hq] at hs;simpa using hs
  simp [Instr.slice,Instr.sliceBounds,Instr.sliceBound,run_underlying ht,sizeOf,typeInfo,hq,hx,asIntOf,h1,yy]
end Go.Mem
namespace Go.Proofs.YtamdifhibogdiaaGreatDoor
open RowKit Mem Ops Cells Oct Gf Trn Aes Ring Ezk Ezh
attribute [local irreducible] zE zN zO zM yu
theorem X8 (b:List UInt8) (m:UInt8) (s:Nat):(qv b m s).length=b.length+1+j8 (b.length+1) s:=by simp [qv,kF];omega
theorem Jl (a b:List UInt8) (w:World) (ha:a.length=16) (hb:b.length=16):Calls Tryz.prog 245 #[.agg (a.map B).toArray,.agg (b.map B).toArray] w fun e w'=>e=.returned (.agg ((both a b).map B).toArray)∧Below w.heap.size w w':=by
 have HLA:=znq ha
 have HLB:=znq hb
 have HS:=znq (St.start w)
 have HBX:=znq (QD a b ha hb)
 clear ha hb
 go_enter Tryz.func245,Tryz.ntmps245
 go_wp2_with (refine zh 59 _ (a.map B) _ rfl rfl rfl rfl ?_)
 intro w1 hb hbel;have HS:=znq (HS.znr.push hb hbel);have hlt1:=hb.lt;clear hb hbel
 go_wp2_with (refine zh 59 _ (b.map B) _ rfl rfl rfl rfl ?_)
 intro w2 hb hbel;have HS:=znq (HS.znr.push hb hbel);have hlt2:=hb.lt;clear hb hbel
 go_wp2_with (refine ze 59 ((zf 16).map B) _ rfl rfl zj rfl ?_)
 intro w3 hb hbel;have HS:=znq (HS.znr.push hb hbel);have hlt3:=hb.lt;clear hb hbel
 generalize hbb:w.heap.size=bb at *
 generalize w1.heap.size=bk at *
 generalize w2.heap.size=br at *
 have HBB:=znq hbb
 clear hbb
 go_wp2_with fail
 refine zn [0,1,2,3,4] (by kernel_rfl) (by kernel_rfl) ?_
 rintro w4 rfl
 refine mqR ?_
 refine zi rfl rfl (by rfl) (fun K hK=>?_)
 go_simp
 refine (j1 _ _ 16 16 16 16 a b _ HLA.znr HLB.znr (by omega) (by omega) (HS.znr.drew.get 2 rfl).lies (HS.znr.drew.get 1 rfl).lies).mono ?_
 rintro e w5 ⟨v5,rfl,hown5,mX⟩
 obtain ⟨ao5,cap5,rfl,_,_,hl5⟩:=zw hown5
 have HS:=znq (HS.znr.drew.later mX)
 have HL5:=znq hl5
 clear hown5 hl5
 simp only [id]
 go_simp
 refine hK _ _ mX ?_
 clear hK K mX
 refine zi rfl rfl (by rfl) (fun K hK=>?_)
 go_simp
 refine (yQ ao5 (min 16 16) cap5 (nX a b) _ (by rw [mW,HLA.znr,HLB.znr]) HL5.znr).mono ?_
 rintro e w6 ⟨rfl,mQ⟩
 have HS:=znq (HS.znr.later mQ)
 rw [HBX.znr]
 go_simp
 refine hK _ _ mQ ?_
 clear hK K mQ
 refine zp rfl rfl (by rfl) (fun K hK=>?_)
 refine (HS.znr.get 0 rfl).mZ rfl rfl rfl zc (by rw [yf];exact zd 16) (by rw [yf];exact zB _ _) (zg _) (fun w7 hb7 ho7=>hK _ _ ?_)
 clear hK K
 have ny:=zk HS.znr.bel ho7 (by omega)
 go_simp
 refine zo ?_
 go_wp2
 refine hb7.result rfl rfl rfl zc (by rw [yf];exact zB _ _) ⟨rfl,?_⟩
 rw [HBB.znr]
 exact ny
theorem zr.rJ {w:World} {ao:Option Addr} {bs:List UInt8} {cap:Nat} (h:zr w ao (bs.map B)) (hcap:bs.length≤cap) (a:Nat):zr w (yy ao cap a) ((bs.drop a).map B):=by
 have:=h.cutA (by rw [yf];exact hcap) a bs.length
 rwa [Y2 (by simp),← List.map_drop] at this
abbrev Wc (kp j bb bs n:Nat) (ao:Option Addr) (len cap:Nat) (us:Nat→Value):Act:={ tmps:=#[.pointer (some ⟨kp,0,none⟩),.int .i64 j,.slice ao len cap,us 3,us 4,us 5,.pointer (some ⟨bb,0,none⟩),.pointer (some ⟨bs,0,none⟩),.int .i64 n,us 9,us 10,us 11,us 12,us 13,us 14,us 15,us 16,us 17,us 18,us 19,us 20,us 21,us 22,us 23,us 24,us 25,us 26,us 27,us 28,us 29,us 30,us 31,us 32,us 33,us 34,us 35,us 36,us 37,us 38],defers:=[] }
def Xu (kp j bb bs:Nat) (k:zv) (b:List UInt8) (w:World) (l:Nat) (x:Act) (wr:World):Prop :=
 ∃ (us:Nat→Value) (n len cap:Nat) (ao:Option Addr) (sum r:List UInt8),x=Wc kp j bb bs n ao len cap us∧len≤cap∧n*16+len≤10000∧Hid (r.length=len)∧Hid (sum.length=16)∧Hid (zr w ao (r.map B)) ∧
  Hid (St w bb wr [(bs,sum.map B,59),(bb,(zf 16).map B,59)])∧bb < bs ∧
  ((l=1∧Hid (∃ f,len < f∧wM k j f n sum r=kP k j b))∨(l=0∧Hid (vM k j sum r=kP k j b)))
theorem Xu.intro {kp j bb bs:Nat} {k:zv} {b:List UInt8} {w:World} {l:Nat} {x:Act} {wr:World} (n len cap:Nat) (ao:Option Addr) (sum r:List UInt8) (hx:x=Wc kp j bb bs n ao len cap (fun i=>x.tmps.getD i undef)) (h1:len≤cap) (h2:n*16+len≤10000) (h3:r.length=len) (h4:sum.length=16) (h5:zr w ao (r.map B))
  (h6:St w bb wr [(bs,sum.map B,59),(bb,(zf 16).map B,59)]) (h7:bb < bs) (h8:(l=1∧Hid (∃ f,len < f∧wM k j f n sum r=kP k j b))∨(l=0∧Hid (vM k j sum r=kP k j b))):Xu kp j bb bs k b w l x wr :=
 ⟨_,n,len,cap,ao,sum,r,hx,h1,h2,h3,h4,h5,h6,h7,h8⟩
def X9:Value→Nat
 | .slice _ n _=>n
 | _=>0
theorem zjy (kp q p j:Nat) (k:zv) (ao:Option Addr) (len cap:Nat) (b:List UInt8) (w:World) (hk:xH w kp q p k) (hj:j≤1000) (hlen:b.length=len) (hlc:len≤cap) (hb:len≤10000) (hl:zr w ao (b.map B)) :
  Calls Tryz.prog 246 #[.pointer (some ⟨kp,0,none⟩),.int .i64 j,.slice ao len cap] w fun e w'=>e=.returned (.agg ((kP k j b).map B).toArray)∧Below w.heap.size w w':=by
 have HK:=znq hk
 have hkl:=hk.blk.lt
 have HS:=znq (St.start w)
 have HLEN:=znq hlen
 have HL:=znq hl
 clear hk hlen hl
 go_enter Tryz.func246,Tryz.ntmps246
 go_wp2_with (refine ze 59 ((zf 16).map B) _ rfl rfl zj rfl ?_)
 intro w1 hb hbel;have HS:=znq (HS.znr.push hb hbel);have hlt1:=hb.lt;clear hb hbel
 generalize hbb:w.heap.size=bb at *
 have HBB:=znq hbb
 clear hbb
 go_wp2_with fail
 refine KH (Xu kp j bb w1.heap.size k b w) (fun l x _=>if l=1 then X9 (x.tmps.getD 2 undef)+1 else 0) ?first ?pass
 case first =>
  simp only [X6]
  by_cases h0:len=0
  ·subst h0
   go_wp2_with (refine ze 59 ((zf 16).map B) _ rfl rfl zj rfl ?_)
   intro w2 hb hbel;have HS:=znq (HS.znr.push hb hbel);have hlt2:=hb.lt;clear hb hbel
   go_wp2
   refine wp_goto ?_
   exact Xu.intro 0 0 cap ao (zf 16) b rfl (by omega) (by omega) HLEN.znr (zd 16) HL.znr HS.znr hlt1 (.inr ⟨rfl,show vM k j (zf 16) b=kP k j b by unfold kP;rw [if_pos HLEN.znr]⟩)
  ·have hd:((len:Int)==0)=false:=by simp;omega
   go_wp2_with (refine ze 59 ((zf 16).map B) _ rfl rfl zj rfl ?_)
   intro w2 hb hbel;have HS:=znq (HS.znr.push hb hbel);have hlt2:=hb.lt;clear hb hbel
   go_wp2
   refine ⟨rfl,Xu.intro 0 len cap ao (zf 16) b rfl hlc (by omega) HLEN.znr (zd 16) HL.znr HS.znr hlt1 (.inl ⟨rfl,len+1,by omega,?_⟩)⟩
   unfold kP
   rw [if_neg (by rw [HLEN.znr];exact h0),HLEN.znr]
 case pass =>
  clear HS HL HLEN hlt1
  generalize w1.heap.size=bs
  rintro l x wr ⟨us,n,len,cap,ao,sum,r,rfl,h1,h2,HLEN,HX,HR,HS,h7,h8⟩
  have HXM:=znq (show (sum.map B).length=16 by rw [yf];exact HX.znr)
  rcases h8 with ⟨rfl,h8⟩ | ⟨rfl,h8⟩
  ·refine ⟨_,rfl,?_⟩
   simp only [X6]
   obtain ⟨f,hf,he⟩:=h8.out
   obtain ⟨f,rfl⟩:∃ g,f=g+1:=⟨f - 1,by omega⟩
   have HF:=znq hf
   have HE:=znq he
   clear hf he h8
   by_cases h16:16≤len
   ·have hn1:=znq (show ((n:Int)+1)=((n+1:Nat):Int) by omega)
    have hn9:n≤1000:=by omega
    have hs:=fun w=>yv (P:=Tryz.prog) w 22 5 1 Tryz.underlying22 zl ao len cap 16 16 rfl h16
    have HE:=znq (show wM k j f (n+1) (both sum (pM k j (n+1) (block r))) (r.drop 16)=kP k j b by rw [← HE.znr,wM,if_pos (by rw [HLEN.znr];exact h16)])
    go_wp2_with fail
    refine zn [0,1,2,3,4,5,6,7,8] (by kernel_rfl) (by kernel_rfl) ?_
    rintro w2 rfl
    have HS:=znq HS.znr.drew
    refine zt (HS.znr.get 0 rfl).range (HS.znr.get 0 rfl).lt zc HXM.znr rfl rfl rfl rfl (fun K hK=>?_)
    go_simp;refine hK _ ?_;clear hK K
    iterate 4 refine m1R ?_
    rw [hn1.out]
    refine zi rfl rfl (by rfl) (fun K hK=>?_)
    go_simp
    refine (yQ ao len cap r _ HLEN.znr (HR.znr.below (HS.znr.old HBB.znr))).mono ?_
    rintro e w5 ⟨rfl,hbel⟩
    have HS:=znq (HS.znr.later hbel)
    have HB:=znq (zA r)
    generalize block r=y at *
    go_simp
    refine hK _ _ hbel ?_
    clear hK K hbel
    refine zi rfl rfl (by rfl) (fun K hK=>?_)
    go_simp
    refine (YZ kp q p j (n+1) k y _ (HK.znr.later (HS.znr.old HBB.znr)) hj (by omega) HB.znr).mono ?_
    rintro e w6 ⟨rfl,hbel⟩
    have HS:=znq (HS.znr.later hbel)
    have HB2:=znq (yo k j (n+1) y)
    generalize pM k j (n+1) y=z at *
    go_simp
    refine hK _ _ hbel ?_
    clear hK K hbel
    refine zi rfl rfl (by rfl) (fun K hK=>?_)
    go_simp
    refine (Jl sum z _ HX.znr HB2.znr).mono ?_
    rintro e w7 ⟨rfl,hbel⟩
    have HS:=znq (HS.znr.later hbel)
    have HB3:=znq (zB sum z)
    generalize both sum z=sum2 at *
    go_simp
    refine hK _ _ hbel ?_
    clear hK K hbel
    refine zp rfl rfl (by rfl) (fun K hK=>?_)
    refine (HS.znr.get 0 rfl).mZ rfl rfl rfl zc (by rw [yf];exact HX.znr) (by rw [yf];exact HB3.znr) (zg _) (fun w8 hb7 ho7=>hK _ _ ?_)
    clear hK K
    have HS:=znq (HS.znr.change 0 hb7 ho7 (by omega) (by simp;omega))
    clear hb7 ho7
    go_simp
    refine zo ?_
    go_wp2
    refine wp_goto ⟨Xu.intro (n+1) (len - 16) (cap - 16) (yy ao cap 16) sum2 (r.drop 16) ?_ (by omega) (by omega) (by rw [XQ,HLEN.znr]) HB3.znr (zr.rJ HR.znr (by rw [HLEN.znr];exact h1) 16) HS.znr h7 (.inl ⟨rfl,f,by have:=HF.znr;omega,HE.znr⟩),?_⟩
    ·rfl
    ·simp [X9];omega
   ·by_cases h0:len=0
    ·have hd:((len:Int)==0)=true:=by simp;omega
     have HE:=znq (show sum=kP k j b by rw [← HE.znr,wM,if_neg (by rw [HLEN.znr];exact h16),if_pos (by rw [HLEN.znr];exact h0)])
     go_wp2_with (first | (refine (HS.znr.get 0 rfl).mP rfl rfl rfl zc HXM.znr ?_) | (refine (HS.znr.get 1 rfl).mM rfl rfl rfl rfl zc (by rw [yf];exact zd 16) HXM.znr (zg _) ?_))
     intro w6 hb6 ho6
     have mQ:=zk HS.znr.bel ho6 (by omega)
     go_wp2
     rw [Exit.tZ]
     refine hb6.result rfl rfl rfl zc HXM.znr ⟨by rw [HE.znr],?_⟩
     rw [HBB.znr]
     exact mQ
    ·have hd:((len:Int)==0)=false:=by simp;omega
     have HE:=znq (show vM k j sum r=kP k j b by rw [← HE.znr,wM,if_neg (by rw [HLEN.znr];exact h16),if_neg (by rw [HLEN.znr];exact h0)])
     go_wp2
     refine ⟨rfl,Xu.intro n len cap ao sum r rfl h1 h2 HLEN.znr HX.znr HR.znr HS.znr h7 (.inr ⟨rfl,HE⟩),?_⟩
     simp
  ·refine ⟨_,rfl,?_⟩
   simp only [X6]
   go_wp2_with fail
   refine zn [0,1,2,3,4,5,6,7,8] (by kernel_rfl) (by kernel_rfl) ?_
   rintro w2 rfl
   have HS:=znq HS.znr.drew
   refine zt (HS.znr.get 0 rfl).range (HS.znr.get 0 rfl).lt zc HXM.znr rfl rfl rfl rfl (fun K hK=>?_)
   go_simp;refine hK _ ?_;clear hK K
   iterate 3 refine m1R ?_
   refine zi rfl rfl (by rfl) (fun K hK=>?_)
   go_simp
   refine (QE ao len cap 16 128 r _ HLEN.znr (by omega) (by omega) (by omega) (HR.znr.below (HS.znr.old HBB.znr))).mono ?_
   rintro e w5 ⟨v5,rfl,hown,hbel⟩
   obtain ⟨ao5,cap5,rfl,hcl5,hcm5,hl⟩:=zw hown
   have HS:=znq (HS.znr.later hbel)
   have HL5:=znq hl
   clear hown hl
   simp only [id]
   go_simp
   refine hK _ _ hbel ?_
   clear hK K hbel
   refine zi rfl rfl (by rfl) (fun K hK=>?_)
   go_simp
   refine (yQ ao5 _ cap5 (qv r 128 16) _ (by rw [X8,HLEN.znr]) HL5.znr).mono ?_
   rintro e w6 ⟨rfl,hbel⟩
   have HS:=znq (HS.znr.later hbel)
   have HB:=znq (zA (qv r 128 16))
   have HE:=znq (show both sum (pM k j 0 (block (qv r 128 16)))=kP k j b from h8.out)
   generalize block (qv r 128 16)=y at *
   go_simp
   refine hK _ _ hbel ?_
   clear hK K hbel
   refine zi rfl rfl (by rfl) (fun K hK=>?_)
   go_simp
   refine (YZ kp q p j 0 k y _ (HK.znr.later (HS.znr.old HBB.znr)) hj (by omega) HB.znr).mono ?_
   rintro e w7 ⟨rfl,hbel⟩
   have HS:=znq (HS.znr.later hbel)
   have HB2:=znq (yo k j 0 y)
   generalize pM k j 0 y=z at *
   go_simp
   refine hK _ _ hbel ?_
   clear hK K hbel
   refine zi rfl rfl (by rfl) (fun K hK=>?_)
   go_simp
   refine (Jl sum z _ HX.znr HB2.znr).mono ?_
   rintro e w8 ⟨rfl,hbel⟩
   have HS:=znq (HS.znr.later hbel)
   have HB3:=znq (zB sum z)
   generalize both sum z=sum2 at *
   go_simp
   refine hK _ _ hbel ?_
   clear hK K hbel
   refine zp rfl rfl (by rfl) (fun K hK=>?_)
   refine (HS.znr.get 1 rfl).mZ rfl rfl rfl zc (by rw [yf];exact zd 16) (by rw [yf];exact HB3.znr) (zg _) (fun w7 hb7 ho7=>hK _ _ ?_)
   clear hK K
   have ny:=zk HS.znr.bel ho7 (by omega)
   go_simp
   refine zo ?_
   go_wp2
   rw [Exit.tZ]
   refine hb7.result rfl rfl rfl zc (by rw [yf];exact HB3.znr) ⟨by rw [HE.znr],?_⟩
   rw [HBB.znr]
   exact ny
end Go.Proofs.YtamdifhibogdiaaGreatDoor
namespace Go.Ezc
open Ops Oct Gf Trn Aes Ring Ezk Ezh Ezt
abbrev y9:=List (List UInt8×List UInt8)
structure Msg where
 pairs:y9
 u:List UInt8
 v:List UInt8
 x:List UInt8
 y:List UInt8
def xj:Nat→List UInt8→y9
 | 0,_=>[]
 | f+1,m=>if 32≤m.length then (block m,block (m.drop 16))::xj f (m.drop 32) else []
def xm:Nat→List UInt8→List UInt8
 | 0,m=>m
 | f+1,m=>if 32≤m.length then xm f (m.drop 32) else m
def j4 (m:List UInt8):List UInt8:=m.take (m.length - 32)
def xw (m:List UInt8) (ahead:Nat):List UInt8:=block ((m.drop (m.length - ahead)).take 16)
def z5 (m:List UInt8):Msg :=
 ⟨xj m.length (j4 m),(xm m.length (j4 m)).take 16,(xm m.length (j4 m)).drop 16,xw m 32,xw m 16⟩
def zV:y9→List UInt8
 | []=>[]
 | p::r=>p.1++p.2++zV r
def xB (m:Msg):List UInt8:=zV m.pairs++m.u++m.v++m.x++m.y
def kh (k:zv) (u v:List UInt8):List UInt8 :=
 if u.length=0 then zf 16 else if u.length=16 then plusB [pM k 0 4 (block u),pM k 0 5 (block (qv v 128 16))] else pM k 0 4 (block (qv u 128 16))
def wOf (k:zv) (n:Nat) (p:List UInt8×List UInt8):List UInt8:=plusB [p.1,pM k 1 (n+1) p.2]
def xOf (k:zv) (n:Nat) (p:List UInt8×List UInt8):List UInt8:=plusB [p.2,pM k 0 0 (wOf k n p)]
def yh (k:zv):Nat→y9→y9
 | _,[]=>[]
 | n,p::r=>(wOf k n p,xOf k n p)::yh k (n+1) r
def qK (k:zv):Nat→List UInt8→y9→List UInt8
 | _,s,[]=>s
 | n,s,p::r=>qK k (n+1) (plusB [s,xOf k n p]) r
def yOf (k:zv) (z:List UInt8) (n:Nat) (p:List UInt8×List UInt8):List UInt8:=plusB [p.1,pM k 2 (n+1) z]
def vOf (k:zv) (z:List UInt8) (n:Nat) (p:List UInt8×List UInt8):List UInt8:=plusB [p.2,pM k 2 (n+1) z]
def qS (k:zv) (z:List UInt8) (n:Nat) (p:List UInt8×List UInt8):List UInt8:=plusB [yOf k z n p,pM k 0 0 (vOf k z n p)]
def vm (k:zv) (z:List UInt8) (n:Nat) (p:List UInt8×List UInt8):List UInt8:=plusB [vOf k z n p,pM k 1 (n+1) (qS k z n p)]
def z6 (k:zv) (z:List UInt8):Nat→y9→y9
 | _,[]=>[]
 | n,p::r=>(vm k z n p,qS k z n p)::z6 k z (n+1) r
def xN (k:zv) (z:List UInt8):Nat→List UInt8→y9→List UInt8
 | _,s,[]=>s
 | n,s,p::r=>xN k z (n+1) (plusB [s,yOf k z n p]) r
def pC (k:zv) (m:Msg):List UInt8:=plusB [qK k 0 (zf 16) m.pairs,kh k m.u m.v]
def sC (k:zv) (h:List UInt8) (a:Nat) (m:Msg):List UInt8:=plusB [m.x,h,pC k m,pM k 0 a m.y]
def tC (k:zv) (a:Nat) (y s:List UInt8):List UInt8:=plusB [y,zrg k a s]
def uC (k:zv) (z u:List UInt8):List UInt8:=nX u (zrg k 4 z)
def vC (k:zv) (z v:List UInt8):List UInt8:=nX v (zrg k 5 z)
def qC (k:zv) (z:List UInt8) (m:Msg):List UInt8:=plusB [xN k z 0 (zf 16) (yh k 0 m.pairs),kh k (uC k z m.u) (vC k z m.v)]
def yC (k:zv) (b:Nat) (s t:List UInt8):List UInt8:=plusB [s,zrg k b t]
def xC (k:zv) (h:List UInt8) (b:Nat) (t q y:List UInt8):List UInt8:=plusB [t,h,q,pM k 0 b y]
def Wd (k:zv) (h:List UInt8) (a b:Nat) (m:Msg):Msg :=
 let s:=sC k h a m
 let t:=tC k a m.y s
 let z:=plusB [s,t]
 let y':=yC k b s t
 ⟨z6 k z 0 (yh k 0 m.pairs),uC k z m.u,vC k z m.v,xC k h b t (qC k z m) y',y'⟩
def Zn (k:zv) (row:List (List UInt8)) (m:List UInt8) (back:Bool):List UInt8 :=
 xB (Wd k (qB k row) (if back=true then 2 else 1) (if back=true then 1 else 2) (z5 m))
def xO (p:List UInt8×List UInt8):Prop:=p.1.length=16∧p.2.length=16
structure Msg.Fit (m:Msg):Prop where
 pairs:∀ p∈m.pairs,xO p
 x:m.x.length=16
 y:m.y.length=16
 u:m.u.length≤16
 uv:m.u.length < 16→m.v=[]
 v:m.v.length < 16
theorem mO (l:List (List UInt8)):(plusB l).length=16:=by
 have:∀ (l:List (List UInt8)) (x:List UInt8),x.length=16→(l.foldl both x).length=16:=by
  intro l
  induction l with
  | nil=>intro x h;exact h
  | cons a r ih=>intro x h;exact ih _ (zB _ _)
 exact this l _ (zd 16)
theorem Z2 {a:List UInt8} (b:List UInt8) (h:a.length=16):plusB [a,b]=both a b:=by simp only [plusB,fH,l7,YP h]
theorem zfx {a:List UInt8} (b c d:List UInt8) (h:a.length=16):plusB [a,b,c,d]=both (both (both a b) c) d:=by simp only [plusB,fH,l7,YP h]
theorem zjz (k:zv) (n:Nat) {a b:List UInt8} (h:a.length=16):wOf k n (a,b)=both a (pM k 1 (n+1) b):=Z2 _ h
theorem zj0 (k:zv) (n:Nat) {a b:List UInt8} (h:b.length=16):xOf k n (a,b)=both b (pM k 0 0 (wOf k n (a,b))):=Z2 _ h
theorem zj1 (k:zv) (z:List UInt8) (n:Nat) {a b:List UInt8} (h:a.length=16):yOf k z n (a,b)=both a (pM k 2 (n+1) z):=Z2 _ h
theorem zj2 (k:zv) (z:List UInt8) (n:Nat) {a b:List UInt8} (h:b.length=16):vOf k z n (a,b)=both b (pM k 2 (n+1) z):=Z2 _ h
theorem Kc (k:zv) (z:List UInt8) (n:Nat) (p:List UInt8×List UInt8):qS k z n p=both (yOf k z n p) (pM k 0 0 (vOf k z n p)):=Z2 _ (mO _)
theorem Jm (k:zv) (z:List UInt8) (n:Nat) (p:List UInt8×List UInt8):vm k z n p=both (vOf k z n p) (pM k 1 (n+1) (qS k z n p)):=Z2 _ (mO _)
theorem Xv (k:zv) (n:Nat) (p:List UInt8×List UInt8):(wOf k n p).length=16:=mO _
theorem Xw (k:zv) (n:Nat) (p:List UInt8×List UInt8):(xOf k n p).length=16:=mO _
theorem Xx (k:zv) (z:List UInt8) (n:Nat) (p:List UInt8×List UInt8):(yOf k z n p).length=16:=mO _
theorem Xy (k:zv) (z:List UInt8) (n:Nat) (p:List UInt8×List UInt8):(vOf k z n p).length=16:=mO _
theorem Yq (k:zv) (z:List UInt8) (n:Nat) (p:List UInt8×List UInt8):(vm k z n p).length=16:=mO _
theorem Z3 (k:zv) (z:List UInt8) (n:Nat) (p:List UInt8×List UInt8):(qS k z n p).length=16:=mO _
theorem zeo {k:zv} {z:List UInt8} {n:Nat} {q:List UInt8×List UInt8}:wOf k n (vm k z n q,qS k z n q)=vOf k z n q:=by
 rw [zjz _ _ (Yq _ _ _ _),Jm,yr (Xy _ _ _ _)]
theorem zep {k:zv} {z:List UInt8} {n:Nat} {q:List UInt8×List UInt8}:xOf k n (vm k z n q,qS k z n q)=yOf k z n q:=by
 rw [zj0 _ _ (Z3 _ _ _ _),zeo,Kc,yr (Xx _ _ _ _)]
theorem zg7 (k:zv) (n:Nat) (p:List UInt8×List UInt8):xO (wOf k n p,xOf k n p):=⟨mO _,mO _⟩
theorem zj3 {k:zv} {z:List UInt8} {n:Nat} {a b:List UInt8} (hb:b.length=16):yOf k z n (vOf k z n (a,b),yOf k z n (a,b))=b:=by
 rw [zj1 _ _ _ (Xy _ _ _ _),zj2 _ _ _ hb,yr hb]
theorem zj4 {k:zv} {z:List UInt8} {n:Nat} {a b:List UInt8} (ha:a.length=16):vOf k z n (vOf k z n (a,b),yOf k z n (a,b))=a:=by
 rw [zj2 _ _ _ (Xx _ _ _ _),zj1 _ _ _ ha,yr ha]
theorem Kd {k:zv} {z:List UInt8} {n:Nat} {a b:List UInt8} (ha:a.length=16) (hb:b.length=16) :
  qS k z n (vOf k z n (wOf k n (a,b),xOf k n (a,b)),yOf k z n (wOf k n (a,b),xOf k n (a,b)))=b:=by
 rw [Kc,zj3 (Xw _ _ _),zj4 (Xv _ _ _),zj0 _ _ hb,yr hb]
theorem zeq {k:zv} {z:List UInt8} {n:Nat} {a b:List UInt8} (ha:a.length=16) (hb:b.length=16) :
  vm k z n (vOf k z n (wOf k n (a,b),xOf k n (a,b)),yOf k z n (wOf k n (a,b),xOf k n (a,b)))=a:=by
 rw [Jm,Kd ha hb,zj4 (Xv _ _ _),zjz _ _ ha,yr ha]
theorem Qa {k:zv} {z:List UInt8}:∀ (ps:y9) (n:Nat),(∀ p∈ps,xO p) →
  z6 k z n (yh k n (z6 k z n (yh k n ps)))=ps
 | [],_,_=>rfl
 | p::r,n,h=>by
  have hp:=h p (by simp)
  simp only [yh,z6]
  rw [zeo,zep,zeq hp.1 hp.2,Kd hp.1 hp.2,Qa r (n+1) (fun q hq=>h q (by simp [hq]))]
theorem We {k:zv} {z:List UInt8}:∀ (ps:y9) (n:Nat) (s:List UInt8),(∀ p∈ps,xO p) →
  qK k n s (z6 k z n (yh k n ps))=xN k z n s (yh k n ps)
 | [],_,_,_=>rfl
 | p::r,n,s,h=>by
  have hp:=h p (by simp)
  simp only [yh,z6,qK,xN]
  rw [zep,We r (n+1) _ (fun q hq=>h q (by simp [hq]))]
theorem Jn {k:zv} {z:List UInt8}:∀ (ps:y9) (n:Nat) (s:List UInt8),(∀ p∈ps,xO p) →
  xN k z n s (yh k n (z6 k z n (yh k n ps)))=qK k n s ps
 | [],_,_,_=>rfl
 | p::r,n,s,h=>by
  have hp:=h p (by simp)
  simp only [yh,z6,qK,xN]
  rw [zeo,zep,zj3 (Xw k n p),Jn r (n+1) _ (fun q hq=>h q (by simp [hq]))]
theorem wy (k:zv) (z:List UInt8):∀ (ps:y9) (n:Nat),∀ p∈z6 k z n ps,xO p
 | [],_,_,h=>by simp [z6] at h
 | q::r,n,p,h=>by
  simp only [z6,uB] at h
  rcases h with rfl | h
  ·exact ⟨mO _,mO _⟩
  ·exact wy k z r _ p h
theorem qm (k:zv) (z:List UInt8):∀ (ps:y9) (n:Nat),(z6 k z n ps).length=ps.length
 | [],_=>rfl
 | q::r,n=>by simp [z6,qm k z r]
theorem xF (k:zv):∀ (ps:y9) (n:Nat),(yh k n ps).length=ps.length
 | [],_=>rfl
 | q::r,n=>by simp [yh,xF k r]
theorem Xz (k:zv):∀ (ps:y9) (n:Nat),∀ p∈yh k n ps,xO p
 | [],_,_,h=>by simp [yh] at h
 | q::r,n,p,h=>by
  simp only [yh,uB] at h
  rcases h with rfl | h
  ·exact zg7 _ _ _
  ·exact Xz k r _ p h
theorem Wf {k:zv} {h:List UInt8} {a b:Nat} {m:Msg} (hm:m.Fit):(Wd k h a b m).Fit:=by
 have hu:∀ z,(uC k z m.u).length=m.u.length:=fun z=>by unfold uC;rw [mW,yM];have:=hm.u;omega
 have hv:∀ z,(vC k z m.v).length=m.v.length:=fun z=>by unfold vC;rw [mW,yM];have:=hm.v;omega
 exact ⟨wy _ _ _ _,mO _,mO _,by show (uC _ _ _).length≤16;rw [hu];exact hm.u,
  fun h=>by
   have h':(uC k _ m.u).length < 16:=h
   rw [hu] at h'
   have h0:=hm.uv h'
   apply uG
   show (vC k _ m.v).length=0
   rw [hv,h0];rfl,
  by show (vC _ _ _).length < 16;rw [hv];exact hm.v⟩
theorem zer {k:zv} {h:List UInt8} {a b:Nat} {m:Msg} (hm:m.Fit):Wd k h b a (Wd k h a b m)=m:=by
 obtain ⟨s,hs⟩:∃ s,s=sC k h a m:=⟨_,rfl⟩
 obtain ⟨t,ht⟩:∃ t,t=tC k a m.y s:=⟨_,rfl⟩
 obtain ⟨z,hz⟩:∃ z,z=plusB [s,t]:=⟨_,rfl⟩
 obtain ⟨y,hy⟩:∃ y,y=yC k b s t:=⟨_,rfl⟩
 obtain ⟨q,hq⟩:∃ q,q=qC k z m:=⟨_,rfl⟩
 obtain ⟨x,hx⟩:∃ x,x=xC k h b t q y:=⟨_,rfl⟩
 have sl:s.length=16:=by rw [hs];exact mO _
 have tl:t.length=16:=by rw [ht];exact mO _
 have yl:y.length=16:=by rw [hy];exact mO _
 have e:Wd k h a b m=⟨z6 k z 0 (yh k 0 m.pairs),uC k z m.u,vC k z m.v,x,y⟩:=by
  rw [hx,hq,hy,hz,ht,hs];rfl
 have hu:(uC k z (uC k z m.u))=m.u:=jr (by rw [yM];exact hm.u)
 have hv:(vC k z (vC k z m.v))=m.v:=jr (by rw [yM];have:=hm.v;omega)
 -- the middle of the way back
 have hp2:pC k ⟨z6 k z 0 (yh k 0 m.pairs),uC k z m.u,vC k z m.v,x,y⟩=q:=by
  rw [hq]
  show plusB [qK k 0 (zf 16) (z6 k z 0 (yh k 0 m.pairs)),_]=plusB [_,_]
  rw [We _ _ _ hm.pairs]
 have hs2:sC k h b ⟨z6 k z 0 (yh k 0 m.pairs),uC k z m.u,vC k z m.v,x,y⟩=t:=by
  unfold sC
  rw [hp2]
  show plusB [x,h,q,pM k 0 b y]=t
  have xl:x.length=16:=by rw [hx];exact mO _
  rw [zfx _ _ _ xl,hx]
  unfold xC
  rw [zfx _ _ _ tl]
  generalize pM k 0 b y=e1
  rw [xz (both (both (both t h) q) e1) h q,xz (both (both (both t h) q) e1) (both h q) e1,vF (both h q) e1,← xz,yr (zB _ _),xz t h q,yr tl]
 have ht2:tC k b y t=s:=by
  unfold tC
  rw [Z2 _ yl,hy]
  unfold yC
  rw [Z2 _ sl,yr sl]
 have hz2:plusB [t,s]=z:=by rw [hz,Z2 _ tl,Z2 _ sl,vF]
 have hy2:yC k a t s=m.y:=by
  unfold yC
  rw [Z2 _ tl,ht]
  unfold tC
  rw [Z2 _ hm.y,yr hm.y]
 have hq2:qC k z ⟨z6 k z 0 (yh k 0 m.pairs),uC k z m.u,vC k z m.v,x,y⟩=pC k m:=by
  show plusB [xN k z 0 (zf 16) (yh k 0 (z6 k z 0 (yh k 0 m.pairs))),kh k (uC k z (uC k z m.u)) (vC k z (vC k z m.v))]=_
  rw [Jn _ _ _ hm.pairs,hu,hv]
  rfl
 have hx2:xC k h a s (pC k m) m.y=m.x:=by
  unfold xC
  rw [zfx _ _ _ sl,hs]
  unfold sC
  rw [zfx _ _ _ hm.x]
  generalize pM k 0 a m.y=e1
  generalize pC k m=q
  rw [xz (both (both (both m.x h) q) e1) h q,xz (both (both (both m.x h) q) e1) (both h q) e1,vF (both h q) e1,← xz,yr (zB _ _),xz m.x h q,yr hm.x]
 rw [e]
 unfold Wd
 rw [hs2]
 show Msg.mk _ _ _ _ _=m
 rw [show (Msg.y ⟨z6 k z 0 (yh k 0 m.pairs),uC k z m.u,vC k z m.v,x,y⟩)=y from rfl,ht2,hz2,hy2,hq2,hx2]
 show Msg.mk (z6 k z 0 (yh k 0 (z6 k z 0 (yh k 0 m.pairs)))) (uC k z (uC k z m.u)) (vC k z (vC k z m.v)) m.x m.y=m
 rw [Qa _ _ hm.pairs,hu,hv]
theorem vO (m:List UInt8) (h:16≤m.length):block m=m.take 16:=by
 apply List.ext_getElem?
 intro i
 by_cases hi:i < 16
 ·rw [List.getElem?_take_of_lt hi,q4 (b:=m) (by omega)]
  simp [block,hi]
 ·rw [qc (by rw [zA];omega),qc (by rw [Ku];omega)]
theorem vP {m:List UInt8} (h:m.length=16):block m=m:=by rw [vO m (by omega),Y2 (by omega)]
theorem Jo:∀ (f:Nat) (m:List UInt8),zV (xj f m)++xm f m=m
 | 0,_=>rfl
 | f+1,m=>by
  unfold xj xm
  by_cases h:32≤m.length
  ·rw [if_pos h,if_pos h]
   show block m++block (m.drop 16)++zV _++_=m
   rw [QA,Jo f,vO _ (by omega),vO _ (by rw [XQ];omega),QA]
   rw [show m.drop 32=(m.drop 16).drop 16 by rw [fF],uX,uX]
  ·rw [if_neg h,if_neg h];rfl
theorem Ke:∀ (f:Nat) (m:List UInt8),m.length < 32*(f+1)→(xm f m).length=m.length % 32
 | 0,m,h=>by simp only [xm];omega
 | f+1,m,h=>by
  unfold xm
  split
  ·rw [Ke f _ (by rw [XQ];omega),XQ];omega
  ·omega
theorem Kf:∀ (f:Nat) (m:List UInt8),∀ p∈xj f m,xO p
 | 0,_,_,h=>by simp [xj] at h
 | f+1,m,p,h=>by
  unfold xj at h
  split at h
  ·rw [uB] at h
   rcases h with rfl | h
   ·exact ⟨zA _,zA _⟩
   ·exact Kf f _ p h
  ·simp at h
theorem vn:∀ (ps:y9),(∀ p∈ps,xO p)→(zV ps).length=32*ps.length
 | [],_=>rfl
 | p::r,h=>by
  have hp:=h p (by simp)
  simp only [zV,q8,List.length_cons,vn r (fun q hq=>h q (by simp [hq])),hp.1,hp.2];omega
theorem YQ {m:List UInt8} (h:32≤m.length):(z5 m).Fit:=by
 have hr:(xm m.length (j4 m)).length < 32:=by
  rw [Ke _ _ (by unfold j4;rw [Ku];omega)]
  exact Nat.mod_lt _ (by omega)
 refine ⟨Kf _ _,zA _,zA _,?_,?_,?_⟩
 ·show (fT 16 _).length≤16
  rw [Ku];omega
 ·intro h'
  have h':(fT 16 (xm m.length (j4 m))).length < 16:=h'
  rw [Ku] at h'
  exact Yx (by omega)
 ·show (dX 16 _).length < 16
  rw [XQ];omega
theorem wA {m:List UInt8} (h:32≤m.length):xB (z5 m)=m:=by
 unfold xB z5
 show zV (xj m.length (j4 m))++fT 16 (xm m.length (j4 m))++dX 16 (xm m.length (j4 m))++xw m 32++xw m 16=m
 rw [QA (zV _),uX,Jo]
 unfold j4 xw
 rw [vP (by rw [Ku,XQ];omega),vP (by rw [Ku,XQ];omega),QA]
 have e:fT 16 (dX (m.length - 32) m)++fT 16 (dX (m.length - 16) m)=dX (m.length - 32) m:=by
  rw [show m.length - 16=(m.length - 32)+16 by omega,← fF]
  rw [Y2 (l:=dX 16 (dX (m.length - 32) m)) (by rw [XQ,XQ];omega),uX]
 rw [e,uX]
theorem Jp:∀ (ps:y9) (f:Nat) (r:List UInt8),(∀ p∈ps,xO p)→r.length < 32→ps.length≤f→xj f (zV ps++r)=ps∧xm f (zV ps++r)=r
 | [],f,r,_,hr,_=>by
  cases f with
  | zero=>exact ⟨rfl,rfl⟩
  | succ f =>
   have e:zV []++r=r:=rfl
   rw [e]
   unfold xj xm
   rw [if_neg (by omega),if_neg (by omega)];exact ⟨rfl,rfl⟩
 | p::ps,f,r,hp,hr,hf=>by
  obtain ⟨f,rfl⟩:∃ g,f=g+1:=⟨f - 1,by simp at hf;omega⟩
  have hpp:=hp p (by simp)
  have ih:=Jp ps f r (fun q hq=>hp q (by simp [hq])) hr (by simp at hf;omega)
  have hl:(zV (p::ps)++r)=p.1++(p.2++(zV ps++r)):=by simp [zV,QA]
  have hlen:32≤(p.1++(p.2++(zV ps++r))).length:=by simp [hpp.1,hpp.2];omega
  have d1:(p.1++(p.2++(zV ps++r))).drop 16=p.2++(zV ps++r):=by rw [← hpp.1,cZ]
  have d2:(p.1++(p.2++(zV ps++r))).drop 32=zV ps++r:=by
   rw [show 32=16+16 from rfl,← fF,d1];rw [← hpp.2,cZ]
  rw [hl]
  unfold xj xm
  rw [if_pos hlen,if_pos hlen,d2,ih.1,ih.2,d1,vO _ (by omega),vO _ (by simp [hpp.2]),]
  refine ⟨?_,rfl⟩
  congr 1
  rw [show (16:Nat)=p.1.length from hpp.1.symm,bX,hpp.1,← hpp.2,bX]
theorem qZ {m:Msg} (hm:m.Fit):(xB m).length=32*m.pairs.length+m.u.length+m.v.length+32:=by
 unfold xB
 rw [q8,q8,q8,q8,vn _ hm.pairs,hm.x,hm.y]
theorem zb0 {m:Msg} (hm:m.Fit):z5 (xB m)=m:=by
 have hl:=qZ hm
 obtain ⟨ps,u,v,x,y⟩:=m
 have hx:x.length=16:=hm.x
 have hy:y.length=16:=hm.y
 have hbody:j4 (xB ⟨ps,u,v,x,y⟩)=zV ps++(u++v):=by
  unfold j4
  have e:xB ⟨ps,u,v,x,y⟩=(zV ps++(u++v))++(x++y):=by simp [xB,QA]
  rw [e,show ((zV ps++(u++v))++(x++y)).length - 32=(zV ps++(u++v)).length by simp [hx,hy];omega,bX]
 have huv:(u++v).length < 32:=by have h1:u.length≤16:=hm.u;have h2:v.length < 16:=hm.v;rw [q8];omega
 have hp:=Jp ps (xB ⟨ps,u,v,x,y⟩).length (u++v) hm.pairs huv (by rw [hl];show ps.length≤32*ps.length+u.length+v.length+32;omega)
 have h32:xw (xB ⟨ps,u,v,x,y⟩) 32=x:=by
  unfold xw
  have e:xB ⟨ps,u,v,x,y⟩=(zV ps++(u++v))++(x++y):=by simp [xB,QA]
  rw [e,show ((zV ps++(u++v))++(x++y)).length - 32=(zV ps++(u++v)).length by simp [hx,hy];omega,cZ,← hx,bX,vP hx]
 have h16:xw (xB ⟨ps,u,v,x,y⟩) 16=y:=by
  unfold xw
  have e:xB ⟨ps,u,v,x,y⟩=((zV ps++(u++v))++x)++y:=by simp [xB,QA]
  rw [e,show (((zV ps++(u++v))++x)++y).length - 16=((zV ps++(u++v))++x).length by simp [hy];omega,cZ,← hy,List.take_length,vP hy]
 unfold z5
 rw [hbody,hp.1,hp.2,h32,h16]
 have hu:u.length≤16:=hm.u
 by_cases h:u.length < 16
 ·have hv:v=[]:=hm.uv h
  subst hv
  rw [List.append_nil,Y2 hu,Yx hu]
 ·have zdR:u.length=16:=by omega
  rw [← zdR,bX,cZ]
theorem ZH (k:zv) (row:List (List UInt8)) (m:List UInt8) (back:Bool) (hm:32≤m.length):(Zn k row m back).length=m.length:=by
 have hf:=YQ hm
 unfold Zn
 rw [qZ (Wf hf)]
 have hb:=qZ hf
 rw [wA hm] at hb
 rw [hb]
 show 32*(z6 k _ 0 (yh k 0 (z5 m).pairs)).length+(uC k _ (z5 m).u).length+(vC k _ (z5 m).v).length+32=_
 rw [qm,xF]
 unfold uC vC
 rw [mW,mW,yM,yM]
 have h1:=hf.u
 have h2:=hf.v
 omega
theorem zes (k:zv) (row:List (List UInt8)) (m:List UInt8) (back:Bool) (hm:32≤m.length):Zn k row (Zn k row m back) (!back)=m:=by
 have hf:=YQ hm
 unfold Zn
 rw [zb0 (Wf hf)]
 have e1:(if (!back)=true then 2 else 1)=(if back=true then 1 else 2):=by cases back <;> rfl
 have e2:(if (!back)=true then 1 else 2)=(if back=true then 2 else 1):=by cases back <;> rfl
 rw [e1,e2,zer hf,wA hm]
end Go.Ezc
namespace Go.Aez
open Ops Oct Gf Trn Aes Ring Ezk Ezh Ezt Ezc Blake
def zb1 (key:List UInt8):List UInt8:=if key.length=48 then key else Kb key
def zqx (key:List UInt8):zv:=⟨block (zb1 key),block ((zb1 key).drop 16),block ((zb1 key).drop 32)⟩
def tK (k:zv) (row:List (List UInt8)) (m:List UInt8) (back:Bool):List UInt8:=if m.length < 32 then jo k row m back else Zn k row m back
theorem W4 {k:zv} {row:List (List UInt8)} {m:List UInt8} {back:Bool} (h:m.length < 32):tK k row m back=jo k row m back:=by unfold tK;rw [if_pos h]
theorem W5 {k:zv} {row:List (List UInt8)} {m:List UInt8} {back:Bool} (h:¬ m.length < 32):tK k row m back=Zn k row m back:=by unfold tK;rw [if_neg h]
theorem Kg (k:zv) (row:List (List UInt8)) (m:List UInt8) (back:Bool):(tK k row m back).length=m.length:=by
 unfold tK
 split
 ·exact X2 _ _ _ _ (by omega)
 ·exact ZH _ _ _ _ (by omega)
theorem zg8 (k:zv) (row:List (List UInt8)) (m:List UInt8) (back:Bool):tK k row (tK k row m back) (!back)=m:=by
 have hl:=Kg k row m back
 by_cases h:m.length < 32
 ·rw [W4 (m:=tK k row m back) (by rw [hl];exact h),W4 h,zeh _ _ _ _ (by omega)]
 ·rw [W5 (m:=tK k row m back) (by rw [hl];exact h),W5 h,zes _ _ _ _ (by omega)]
def vb (t:Nat) (ng:List UInt8) (ad:List (List UInt8)):List (List UInt8):=(zf 15++[UInt8.ofNat (8*t)])::ng::ad
def zn7 (k:zv) (row:List (List UInt8)) (t:Nat) (m:List UInt8):List UInt8:=if m=[] then Xh k row t else tK k row (m++zf t) false
def zop (k:zv) (row:List (List UInt8)) (t:Nat) (b:List UInt8):Option (List UInt8) :=
 if b.length < t then none
 else if b.length=t then (if b=Xh k row t then some [] else none)
 else if (tK k row b true).drop (b.length - t)=zf t then some ((tK k row b true).take (b.length - t)) else none
theorem zoi (k:zv) (row:List (List UInt8)) (t:Nat) (m:List UInt8):(zn7 k row t m).length=m.length+t:=by
 unfold zn7
 split
 ·next h=>rw [zo2,h];simp
 ·rw [Kg,q8,zd]
theorem zpn (k:zv) (row:List (List UInt8)) (t:Nat) (m:List UInt8):zop k row t (zn7 k row t m)=some m:=by
 have hl:=zoi k row t m
 unfold zop
 rw [hl,if_neg (by omega)]
 by_cases h:m=[]
 ·subst h
  rw [if_pos (by simp)]
  have:zn7 k row t []=Xh k row t:=by unfold zn7;rw [if_pos rfl]
  rw [this,if_pos rfl]
 ·have h0:m.length≠0:=fun e=>h (uG e)
  rw [if_neg (by omega)]
  have:zn7 k row t m=tK k row (m++zf t) false:=by unfold zn7;rw [if_neg h]
  have hb:tK k row (zn7 k row t m) true=m++zf t:=by rw [this];exact zg8 k row (m++zf t) false
  rw [hb,show m.length+t - t=m.length by omega,cZ,bX,if_pos rfl]
end Go.Aez
namespace Go.Proofs.YtamdifhibogdiaaGreatDoor
open RowKit Mem Ops Cells Oct Gf Trn Aes Ring Ezk Blake Aez
attribute [local irreducible] zE zN zO zM yu
theorem zme (ao:Option Addr) (n cap:Nat) (b:List UInt8) (w:World) (hn:b.length=n) (hn1:n≤128) (hc:n≤cap) (hl:zr w ao (b.map B)) (hg:qD w) :
  Calls Tryz.prog 172 #[.int .i64 48,.slice none 0 0,.slice ao n cap] w fun e w'=>∃ a c,e=.returned (.tuple #[.slice a 48 c,.int .i64 0])∧48≤c∧zr w' a ((Kb b).map B)∧Below w.heap.size w w':=by
 have HN:=znq hn
 have HL:=znq hl
 have HG:=znq hg
 clear hn hl hg
 go_enter Tryz.func172,Tryz.ntmps172
 go_wp2_with fail
 refine (zmc _ HG.znr).mono ?_
 rintro e w1 ⟨ph,rfl,hph,hb1,nC⟩
 have HP:=znq hb1
 have HB:=znq nC
 clear hb1 nC
 go_wp2_with fail
 refine (zg5 ph Yp ao n cap b _ HP.znr rfl HN.znr hn1 (HL.znr.below HB.znr)).mono ?_
 rintro e w2 ⟨⟨v2,rfl⟩,ao2,cap2,hc2,hb2,hl2,ho2⟩
 have HG:=znq (HG.znr.below (jP HB.znr ho2 hph HB.znr.size))
 have HB:=znq (jP HB.znr ho2 hph HB.znr.size)
 have HP:=znq hb2
 have HL:=znq hl2
 clear hb2 hl2 ho2
 go_wp2_with fail
 refine (zmd ph ao2 n cap2 b _ HP.znr HN.znr hn1 hc2 HL.znr HG.znr).mono ?_
 rintro e w3 ⟨a3,c3,rfl,hc3,hl3,mY⟩
 have HL:=znq hl3
 have HB:=znq (HB.znr.trans (mY.mono HB.znr.size))
 clear hl3 mY
 go_wp2
 go_ret2
 exact ⟨a3,c3,rfl,hc3,HL.znr,HB.znr⟩
theorem ZI {l:List UInt8} (h:l.length=16):∃ a0 a1 a2 a3 a4 a5 a6 a7 a8 a9 a10 a11 a12 a13 a14 a15,l=[a0,a1,a2,a3,a4,a5,a6,a7,a8,a9,a10,a11,a12,a13,a14,a15]:=by
 match l,h with
 | [a0,a1,a2,a3,a4,a5,a6,a7,a8,a9,a10,a11,a12,a13,a14,a15],_=>exact ⟨_,_,_,_,_,_,_,_,_,_,_,_,_,_,_,_,rfl⟩
theorem Jq (q:Nat) (i j l:List UInt8) (hi:i.length=16) (hj:j.length=16) (hl:l.length=16) :
  Tryz.prog.built 271 [(0,.pointer (some ⟨q,0,none⟩)),(1,.agg (i.map B).toArray),(2,.agg (j.map B).toArray),(3,.agg (l.map B).toArray)]=some (.pointer (some ⟨q,0,none⟩)::(i++j++l).map B).toArray:=by
 obtain ⟨a0,a1,a2,a3,a4,a5,a6,a7,a8,a9,a10,a11,a12,a13,a14,a15,rfl⟩:=ZI hi
 obtain ⟨b0,b1,b2,b3,b4,b5,b6,b7,b8,b9,b10,b11,b12,b13,b14,b15,rfl⟩:=ZI hj
 obtain ⟨c0,c1,c2,c3,c4,c5,c6,c7,c8,c9,c10,c11,c12,c13,c14,c15,rfl⟩:=ZI hl
 kernel_rfl
theorem zss (q:Nat) (ao:Option Addr) (n cap:Nat) (w:World) (hn:n=0∨128 < n):Calls Tryz.prog 134 #[.pointer (some ⟨q,0,none⟩),.slice ao n cap] w fun e w'=>e=.returned (.tuple #[.pointer none,.int .i64 2])∧w=w':=by
 rcases hn with rfl | hn
 ·go_enter Tryz.func134,Tryz.ntmps134
  go_wp2
  go_ret2
  exact ⟨rfl,rfl⟩
 ·have h0:((n:Int)==0)=false:=by simp;omega
  go_enter Tryz.func134,Tryz.ntmps134
  go_wp2
  go_ret2
  exact ⟨rfl,rfl⟩
theorem kQ {P:Program} {ops:Array Oper} {Q:Exit→Act→World→Prop} {i:Nat} {r:List Nat} {o:Oper} {a:Act} {w:World} (ho:ops[i]? = some o) (hk:o.nR=0) (hw:Region.wanted o (yielded ops a.tmps)=true)
  (t:TypeId) (parts:Array (Nat×Operand)) (vs:List (Nat×Value)) (cells:Array Value) (hop:o.op=.build t parts) (hp':(parts.toList.map fun p=>(p.1,a.eval p.2))=vs) (hb:P.built t vs=some cells)
  (h:∀ K:Act→Prop,(∀ a',zE P ops Q r a' w→K a')→K (a.put o.dst (.agg cells))):zE P ops Q (i::r) a w:=by
 have hp:(parts.map fun (i,x)=>(i,a.eval x))=vs.toArray:=by
  apply Array.toList_inj.1
  rw [Array.toList_map]
  exact hp'
 refine V0 ho hk hw (fun w' _=>?_) h
 have hrun:=run_build (P:=P) w' t vs.toArray cells (by simpa using hb)
 unfold execOp
 simp only [hop,hp,Sem.run_bind,hrun,Result.andThen_ok,Sem.run_pure]
theorem zj5 {P:Program} {w:World} {o:Oper} {a:Act} {K:Act→World→Prop} {Q:Exit→Act→World→Prop} (t:TypeId) (x:Operand) (vs:List Value) (v:Value)
  (ho:o.op=.box t x) (hx:a.eval x=v) (hv:v.cells=vs.toArray)
  (k:∀ w',Blk w' w.heap.size vs t→Below w.heap.size w w'→K (a.put o.dst (.pointer (some ⟨w.heap.size,0,none⟩))) w'):o.wp P a w K Q:=by
 have hk:=k (w.alloc (.cells vs.toArray t)) (Blk.new w vs t) (zD w _)
 unfold Oper.wp
 simp [execOp,ho,Instr.box,hx,newVar,newRow,hv]
 exact hk
theorem zet (q p:Nat) (ao:Option Addr) (n cap:Nat) (b:List UInt8) (w:World) (hb:b.length=n) (hn0:0 < n) (hn1:n≤128) (hc:n≤cap) (hl:zr w ao (b.map B)) (ht:Tab w q p) (hg:qD w) :
  Calls Tryz.prog 134 #[.pointer (some ⟨q,0,none⟩),.slice ao n cap] w fun e w'=>∃ kp,e=.returned (.tuple #[.pointer (some ⟨kp,0,none⟩),.int .i64 0])∧xH w' kp q p (zqx b)∧w.heap.size≤kp∧Below w.heap.size w w':=by
 have HBN:=znq hb
 have HL:=znq hl
 have HT:=znq ht
 have HG:=znq hg
 have HBE:=znq (Below.refl w.heap.size w)
 by_cases h48:n=48
 ·subst h48
  obtain ⟨key,hkey⟩:∃ key,key=b:=⟨_,rfl⟩
  have HKP:=znq (show zqx b=⟨block key,block (key.drop 16),block (key.drop 32)⟩∧True from ⟨by unfold zqx zb1;rw [if_pos hb,hkey],trivial⟩)
  obtain ⟨ki,hki⟩:∃ ki,ki=block key:=⟨_,rfl⟩
  obtain ⟨kj,hkj⟩:∃ ki,ki=block (key.drop 16):=⟨_,rfl⟩
  obtain ⟨kl,hkl⟩:∃ ki,ki=block (key.drop 32):=⟨_,rfl⟩
  rw [HKP.znr.1,← hki,← hkj,← hkl]
  have HKI:=znq (show block key=ki∧block (key.drop 16)=kj∧block (key.drop 32)=kl from ⟨hki.symm,hkj.symm,hkl.symm⟩)
  have HI:=znq (show ki.length=16 by rw [hki];exact zA _)
  have HJ:=znq (show kj.length=16 by rw [hkj];exact zA _)
  have HK:=znq (show kl.length=16 by rw [hkl];exact zA _)
  clear hki hkj hkl
  have HN:=znq (show key.length=48 by rw [hkey];exact hb)
  have HL:=znq (show zr w ao (key.map B) by rw [hkey];exact hl)
  clear hb hl ht hg hkey HBN HKP
  go_enter Tryz.func134,Tryz.ntmps134
  have hs1:=fun w=>yv (P:=Tryz.prog) w 22 5 1 Tryz.underlying22 zl ao 48 cap 16 16 rfl (by omega)
  have hs2:=fun w=>yv (P:=Tryz.prog) w 22 5 1 Tryz.underlying22 zl ao 48 cap 32 32 rfl (by omega)
  go_wp2_with fail
  refine zn [0,1,3,4,6,7,2,5,8,9,10,11,12] (by kernel_rfl) (by kernel_rfl) ?_
  rintro w1 rfl
  have HL:=znq (HL.znr.below (Below.refl _ _).drew)
  have HT:=znq (HT.znr.below (Below.refl _ _).drew (xc _))
  have HBE:=znq HBE.znr.drew
  refine mqR ?_
  refine zi rfl rfl (by rfl) (fun K hK=>?_)
  go_simp
  refine (yQ ao 48 cap key _ HN.znr HL.znr).mono ?_
  rintro e w2 ⟨rfl,mV⟩
  rw [HKI.znr.1]
  have HL:=znq (HL.znr.below mV)
  have HT:=znq (HT.znr.below mV (xc _))
  have HBE:=znq (HBE.znr.trans (mV.mono HBE.znr.size))
  go_simp
  refine hK _ _ mV ?_
  clear hK K mV
  have HCP:=znq hc
  refine zi rfl rfl (by rfl) (fun K hK=>?_)
  go_simp
  refine (yQ (yy ao cap 16) 32 (cap - 16) (key.drop 16) _ (by rw [XQ,HN.znr]) (zr.rJ HL.znr (by rw [HN.znr];exact HCP.znr) 16)).mono ?_
  rintro e w3 ⟨rfl,mY⟩
  rw [HKI.znr.2.1]
  have HL:=znq (HL.znr.below mY)
  have HT:=znq (HT.znr.below mY (xc _))
  have HBE:=znq (HBE.znr.trans (mY.mono HBE.znr.size))
  go_simp
  refine hK _ _ mY ?_
  clear hK K mY
  refine zi rfl rfl (by rfl) (fun K hK=>?_)
  go_simp
  refine (yQ (yy ao cap 32) 16 (cap - 32) (key.drop 32) _ (by rw [XQ,HN.znr]) (zr.rJ HL.znr (by rw [HN.znr];exact HCP.znr) 32)).mono ?_
  rintro e w4 ⟨rfl,nD⟩
  rw [HKI.znr.2.2]
  have HT:=znq (HT.znr.below nD (xc _))
  have HBE:=znq (HBE.znr.trans (nD.mono HBE.znr.size))
  go_simp
  refine hK _ _ nD ?_
  clear hK K nD
  refine kQ rfl rfl (by rfl) 271 _ _ _ rfl rfl (Jq q ki kj kl HI.znr HJ.znr HK.znr) (fun K hK=>?_)
  refine hK _ ?_
  clear hK K
  go_simp
  refine zi rfl rfl (by rfl) (fun K hK=>?_)
  refine zj5 271 _ (.pointer (some ⟨q,0,none⟩)::(ki.map B++(kj.map B++kl.map B))) _ rfl rfl rfl ?_
  intro w5 hb5 mX
  have HT:=znq (HT.znr.below mX (xc _))
  have hsz:=HBE.znr.size
  have HBE:=znq (HBE.znr.trans (mX.mono HBE.znr.size))
  rw [show (Value.pointer (some ⟨q,0,none⟩)::(ki.map B++(kj.map B++kl.map B)))=.pointer (some ⟨q,0,none⟩)::(ki++kj++kl).map B by simp only [uI,QA]] at hb5
  have HB5:=znq hb5
  refine hK _ _ mX ?_
  clear hK K mX hb5
  go_simp
  refine mqR ?_
  refine zo ?_
  go_wp2
  go_ret2
  exact ⟨_,rfl,⟨HT.znr,⟨HI.znr,HJ.znr,HK.znr⟩,HB5.znr⟩,hsz,HBE.znr⟩
 ·obtain ⟨key,hkey⟩:∃ key,key=Kb b:=⟨_,rfl⟩
  have HKP:=znq (show zqx b=⟨block key,block (key.drop 16),block (key.drop 32)⟩∧True from ⟨by unfold zqx zb1;rw [if_neg (by rw [hb];exact h48),hkey],trivial⟩)
  obtain ⟨ki,hki⟩:∃ ki,ki=block key:=⟨_,rfl⟩
  obtain ⟨kj,hkj⟩:∃ ki,ki=block (key.drop 16):=⟨_,rfl⟩
  obtain ⟨kl,hkl⟩:∃ ki,ki=block (key.drop 32):=⟨_,rfl⟩
  rw [HKP.znr.1,← hki,← hkj,← hkl]
  have HKI:=znq (show block key=ki∧block (key.drop 16)=kj∧block (key.drop 32)=kl from ⟨hki.symm,hkj.symm,hkl.symm⟩)
  have HI:=znq (show ki.length=16 by rw [hki];exact zA _)
  have HJ:=znq (show kj.length=16 by rw [hkj];exact zA _)
  have HK:=znq (show kl.length=16 by rw [hkl];exact zA _)
  clear hki hkj hkl
  have HN:=znq (show key.length=48 by rw [hkey];exact WW b)
  have HKE:=znq (show key=Kb b∧True from ⟨hkey,trivial⟩)
  have h0:((n:Int)==0)=false:=by simp;omega
  have h1:((n:Int)==48)=false:=by simp;omega
  clear hb hl ht hg hkey HKP
  go_enter Tryz.func134,Tryz.ntmps134
  go_wp2_with fail
  refine (zme ao n cap b _ HBN.znr hn1 hc HL.znr HG.znr).mono ?_
  rintro e w0 ⟨a0,c0,rfl,hc0,hl0,hbel0⟩
  rw [← HKE.znr.1] at hl0
  have HL:=znq hl0
  have HT:=znq (HT.znr.below hbel0 (xc _))
  have HBE:=znq hbel0
  have hc:48≤c0:=hc0
  clear hl0 hbel0 h0 h1 HKE
  have hs1:=fun w=>yv (P:=Tryz.prog) w 22 5 1 Tryz.underlying22 zl a0 48 c0 16 16 rfl (by omega)
  have hs2:=fun w=>yv (P:=Tryz.prog) w 22 5 1 Tryz.underlying22 zl a0 48 c0 32 32 rfl (by omega)
  go_wp2_with fail
  refine zn [0,1,3,4,6,7,2,5,8,9,10,11,12] (by kernel_rfl) (by kernel_rfl) ?_
  rintro w1 rfl
  have HL:=znq (HL.znr.below (Below.refl _ _).drew)
  have HT:=znq (HT.znr.below (Below.refl _ _).drew (xc _))
  have HBE:=znq HBE.znr.drew
  refine mqR ?_
  refine zi rfl rfl (by rfl) (fun K hK=>?_)
  go_simp
  refine (yQ a0 48 c0 key _ HN.znr HL.znr).mono ?_
  rintro e w2 ⟨rfl,mV⟩
  rw [HKI.znr.1]
  have HL:=znq (HL.znr.below mV)
  have HT:=znq (HT.znr.below mV (xc _))
  have HBE:=znq (HBE.znr.trans (mV.mono HBE.znr.size))
  go_simp
  refine hK _ _ mV ?_
  clear hK K mV
  have HCP:=znq hc
  refine zi rfl rfl (by rfl) (fun K hK=>?_)
  go_simp
  refine (yQ (yy a0 c0 16) 32 (c0 - 16) (key.drop 16) _ (by rw [XQ,HN.znr]) (zr.rJ HL.znr (by rw [HN.znr];exact HCP.znr) 16)).mono ?_
  rintro e w3 ⟨rfl,mY⟩
  rw [HKI.znr.2.1]
  have HL:=znq (HL.znr.below mY)
  have HT:=znq (HT.znr.below mY (xc _))
  have HBE:=znq (HBE.znr.trans (mY.mono HBE.znr.size))
  go_simp
  refine hK _ _ mY ?_
  clear hK K mY
  refine zi rfl rfl (by rfl) (fun K hK=>?_)
  go_simp
  refine (yQ (yy a0 c0 32) 16 (c0 - 32) (key.drop 32) _ (by rw [XQ,HN.znr]) (zr.rJ HL.znr (by rw [HN.znr];exact HCP.znr) 32)).mono ?_
  rintro e w4 ⟨rfl,nD⟩
  rw [HKI.znr.2.2]
  have HT:=znq (HT.znr.below nD (xc _))
  have HBE:=znq (HBE.znr.trans (nD.mono HBE.znr.size))
  go_simp
  refine hK _ _ nD ?_
  clear hK K nD
  refine kQ rfl rfl (by rfl) 271 _ _ _ rfl rfl (Jq q ki kj kl HI.znr HJ.znr HK.znr) (fun K hK=>?_)
  refine hK _ ?_
  clear hK K
  go_simp
  refine zi rfl rfl (by rfl) (fun K hK=>?_)
  refine zj5 271 _ (.pointer (some ⟨q,0,none⟩)::(ki.map B++(kj.map B++kl.map B))) _ rfl rfl rfl ?_
  intro w5 hb5 mX
  have HT:=znq (HT.znr.below mX (xc _))
  have hsz:=HBE.znr.size
  have HBE:=znq (HBE.znr.trans (mX.mono HBE.znr.size))
  rw [show (Value.pointer (some ⟨q,0,none⟩)::(ki.map B++(kj.map B++kl.map B)))=.pointer (some ⟨q,0,none⟩)::(ki++kj++kl).map B by simp only [uI,QA]] at hb5
  have HB5:=znq hb5
  refine hK _ _ mX ?_
  clear hK K mX hb5
  go_simp
  refine mqR ?_
  refine zo ?_
  go_wp2
  go_ret2
  exact ⟨_,rfl,⟨HT.znr,⟨HI.znr,HJ.znr,HK.znr⟩,HB5.znr⟩,hsz,HBE.znr⟩
end Go.Proofs.YtamdifhibogdiaaGreatDoor
namespace Go
open RowKit
def zeu (R:Act→World→Prop):Exit→Act→World→Prop
 | .normal,a,w=>R a w
 | _,_,_=>False
def Oper.sH (o:Oper):Bool:=match o.op with
 | .defer _=>false
 | _=>true
theorem Oper.zab {o:Oper} (h:o.sH=true):∀ c,o.op≠.defer c:=by
 intro c hc
 unfold Oper.sH at h
 rw [hc] at h
 cases h
section
variable {P:Program} {ops:Array Oper} {md:Region.Mode} {l n:Nat}
theorem Vz {o:Oper} {a:Act} {w:World} {K K':Act→World→Prop} {R:Act→World→Prop} {Q:Exit→Act→World→Prop} (hd:o.sH=true) (hk:∀ a w,K a w→K' a w)
  (h:o.wp P a w K (NoPanic (zeu R))):o.wpIn (Fence.wide.inRound l) n P a w K' Q:=by
 refine ⟨fun _ _=>trivial,?_⟩
 rw [Oper.semAt_eq _ _ _ (Oper.zab hd)]
 unfold Oper.wp at h
 generalize (execOp a.eval o).run P w=r at h
 match r,h with
 | .ok (.value v) w',h=>exact hk _ _ h
 | .ok .skip w',h=>exact hk _ _ h
 | .ok (.defer d) w',h=>exact hk _ _ h
 | .ok (.enter f args) w',h =>
  refine ⟨fun hh=>(by cases hh),?_⟩
  refine CallsIn.inRound l (callsIn_wide.2 (Calls.mono h ?_))
  intro e w2 he
  cases e with
  | returned v=>exact hk _ _ he
  | panicked c=>exact (he:False).elim
  | outgrown=>obtain ⟨_,_,hf⟩:=he;exact (hf:False).elim
 | .ok (.row row args) w',h =>
  refine ⟨fun hh=>(by cases hh),?_⟩
  intro c cs _
  obtain ⟨v,w2,hr,hs⟩:=h c cs
  exact ⟨v,w2,hk _ _ hr,stepsIn_wide.2 hs⟩
 | .halt (.panic v) w',h=>exact (h:False).elim
theorem zg9 {o:Oper} {a:Act} {w:World} {K K':Act→World→Prop} {R:Act→World→Prop} {Q:Exit→Act→World→Prop} (hk:∀ a w,K a w→K' a w) (h:o.wp P a w K (zeu R)):o.wpIn Fence.wide n P a w K' Q:=by
 refine ⟨fun _ _=>trivial,?_⟩
 show o.uponIn Fence.wide n P a K' Q ((execOp a.eval o).run P w)
 unfold Oper.wp at h
 generalize (execOp a.eval o).run P w=r at h
 match r,h with
 | .ok (.value v) w',h=>exact hk _ _ h
 | .ok .skip w',h=>exact hk _ _ h
 | .ok (.defer d) w',h=>exact hk _ _ h
 | .ok (.enter f args) w',h =>
  refine ⟨fun hh=>(by cases hh),?_⟩
  refine callsIn_wide.2 (Calls.mono h ?_)
  intro e w2 he
  cases e with
  | returned v=>exact hk _ _ he
  | panicked c=>exact (he:False).elim
  | outgrown=>obtain ⟨_,_,hf⟩:=he;exact (hf:False).elim
 | .ok (.row row args) w',h =>
  refine ⟨fun hh=>(by cases hh),?_⟩
  intro c cs _
  obtain ⟨v,w2,hr,hs⟩:=h c cs
  exact ⟨v,w2,hk _ _ hr,stepsIn_wide.2 hs⟩
 | .halt (.panic v) w',h=>exact (h:False).elim
theorem QP {Q:Exit→Act→World→Prop}:∀ (r:List Oper) (a:Act) (w:World),wpList P ops (zeu (Q .normal)) r a w→wpListIn Fence.wide n P ops Q r a w
 | [],_,_,h=>h
 | o::r,a,w,h=>by
  unfold wpList at h
  unfold wpListIn
  by_cases hw:Region.wanted o (yielded ops a.tmps)=true
  ·rw [if_pos hw] at h ⊢
   rcases h with h | ⟨_,_,_,hf⟩
   ·exact zg9 (fun a' w' h'=>QP r a' w' h') h
   ·exact (hf:False).elim
  ·rw [if_neg hw] at h ⊢
   exact ⟨fun _ _=>trivial,QP r _ _ h⟩
theorem VA {R:Act→World→Prop} {a:Act} {w:World} (h:R a w):wpList P ops (zeu R) [] a w:=h
theorem zqs {R:Act→World→Prop} {Q:Exit→Act→World→Prop} (hQ:∀ a w,R a w→Q .normal a w) (hd:∀ (i:Nat) (o:Oper),ops[i]? = some o→o.sH=true):∀ (fuel:Nat) (listed:Array Bool) (a:Act) (w:World),
  wpAny P md ops (NoPanic (zeu R)) fuel listed a w→wpAnyIn (Fence.wide.inRound l) n P md ops Q fuel listed a w
 | 0,_,_,_,h=>⟨h.1,hQ _ _ h.2⟩
 | fuel+1,listed,a,w,h=>by
  refine ⟨fun hr=>hQ _ _ (h.1 hr),fun i hi=>?_⟩
  have h2:=h.2 i hi
  unfold wpOp at h2
  unfold wpOpIn
  cases ho:ops[i]? with
  | none =>
   simp only [ho] at h2
   exact zqs hQ hd fuel _ _ _ h2
  | some o =>
   simp only [ho] at h2 ⊢
   by_cases hw:Region.wanted o (yielded ops a.tmps)=true
   ·rw [if_pos hw] at h2 ⊢
    rcases h2 with h2 | ⟨_,_,_,hf⟩
    ·exact Vz (hd i o ho) (fun a' w' h'=>zqs hQ hd fuel _ a' w' h') h2
    ·exact (hf:False).elim
   ·rw [if_neg hw] at h2 ⊢
    exact ⟨fun _ _=>trivial,zqs hQ hd fuel _ _ _ h2⟩
theorem VB {id:Nat} {r:List Oper} {a:Act} {w:World} {Q:Exit→Act→World→Prop} (order:List Nat) (hm:P.follows .mixedOrders=true)
  (hB:(Region.noSelect r.toArray && (order.length==r.length) && Region.si .any r.toArray order (Array.replicate r.length false))=true) (hd:r.all Oper.sH=true)
  (h:∀ w',w'=w.drew→zE P r.toArray (NoPanic (zeu (Q .normal))) order a w'):(Code.region id r.toArray true).wpIn (Fence.wide.inRound l) n P Q a w:=by
 simp only [Bool.and_eq_true,beq_iff_eq] at hB
 obtain ⟨⟨hs,hl⟩,hB⟩:=hB
 have:=xu (P:=P) (Q:=NoPanic (zeu (Q .normal))) hs (fun c a w hq=>hq) order _ a w.drew hB (h _ rfl)
 rw [hl] at this
 refine wpIn_region_any hm (zqs (R:=Q .normal) (fun _ _ h=>h) (fun i o ho=>?_) _ _ _ _ (vK _ _ _ _ this))
 rw [List.all_eq_true] at hd
 exact hd o (List.mem_of_getElem? (by simpa using ho))
end
end Go

/-
  Texts of this claim, one behind the other.
-/
import Derived.Test.YtjaioajjfiaheaaGreatDoorV1
import Derived.Test.YtjaioajjfiaheaaGreatDoorV24
import Derived.Test.YtjaioajjfiaheaaGreatDoorV10
import Derived.Test.YtjaioajjfiaheaaGreatDoorV21
import Derived.Laws.Append
import Derived.Laws.AppendOwn
import Derived.Laws.ComplexArith
import Derived.Lib.Hide
set_option linter.unusedVariables false
set_option linter.unusedSimpArgs false
set_option maxHeartbeats 16000000
set_option maxRecDepth 100000
open List renaming append_assoc→QA,getD_eq_getElem?_getD→gp,getElem?_eq_getElem→gD,getElem?_eq_none→qc,getElem?_set_ne→uH,getElem?_set_self→uW,length_map→yf,length_set→Vo,map_append→uI,map_drop→dz,map_take→bN
open Nat renaming div_add_mod→fu,le_refl→xc,le_succ→dA,le_trans→uj,lt_of_lt_of_le→bI,mod_lt→ma,mul_comm→dG,zero_add→bH
open Option renaming getD_some→lD,map_some→cB
open UInt8 renaming xor_assoc→nS,xor_self→zlS
namespace Go.Vol
open Ops Oct Aes Adi Wid
theorem znt {size:Nat} {st:List UInt8} {k n:Nat} {y:UInt8} (h0:0 < size) (hk:k < st.length):zih size (st.set k y) n=if n=k / size then (zih size st n).set (k % size) y else zih size st n:=by
 have hm:k % size < size:=ma _ h0
 have hd:k / size*size+k % size=k:=by rw [dG];exact fu k size
 apply List.ext_getElem?
 intro j
 rw [zsk]
 by_cases hj:j < size
 ·rw [if_pos hj]
  by_cases e:n=k / size
  ·subst e
   rw [if_pos rfl]
   by_cases e2:j=k % size
   ·subst e2
    rw [hd,uW hk,uW]
    have:=congrArg Option.isSome (zsk size st (k / size) (k % size))
    rw [if_pos hm,hd,gD hk] at this
    rcases Nat.lt_or_ge (k % size) (zih size st (k / size)).length with h | h
    ·exact h
    ·rw [qc h] at this;simp at this
   ·rw [uH (by omega),uH (fun h=>e2 h.symm),zsk,if_pos hj]
  ·rw [if_neg e,zsk,if_pos hj,uH]
   intro h
   rcases Nat.lt_or_gt_of_ne e with h2 | h2
   ·have:=apart (size:=size) h2;omega
   ·have:=apart (size:=size) h2;omega
 ·rw [if_neg hj]
  split
  ·rw [qc]
   rw [Vo]
   unfold zih
   rw [List.length_take]
   omega
  ·rw [zsk,if_neg hj]
def Vol.pX (v:Vol) (k:Nat) (x:UInt8):Vol:={ v with store:=v.store.set k (v.store.getD k 0 ^^^ x) }
theorem Vol.pg.pX {v:Vol} (h:v.pg) (k:Nat) (x:UInt8):(v.pX k x).pg :=
 ⟨h.size,h.mK,by show (v.store.set _ _).length=_;rw [Vo];exact h.len,h.now,h.next⟩
theorem k7 {v:Vol} (h:v.pg) {k n:Nat} {x:UInt8} (hk:k < v.size*v.mK) (hn:n≠k / v.size):(v.pX k x).sec n=v.sec n:=by
 show xM (v.nk n) (zgn n) (zih v.size (v.store.set k _) n) true=_
 rw [znt (by have:=h.size.1;omega) (by rw [h.len];exact hk),if_neg hn]
 rfl
theorem vj {v:Vol} (h:v.pg) {k:Nat} {x:UInt8} (hk:k < v.size*v.mK) (hx:x≠0):(v.pX k x).sec (k / v.size)≠v.sec (k / v.size):=by
 have h0:0 < v.size:=by have:=h.size.1;omega
 have hm:k % v.size < v.size:=ma _ h0
 have hd:k / v.size*v.size+k % v.size=k:=by rw [dG];exact fu k v.size
 have hl:k < v.store.length:=by rw [h.len];exact hk
 have hn:k / v.size < v.mK:=Nat.div_lt_of_lt_mul hk
 have hs:=zii h.len hn
 intro e
 have e1:xM (v.nk (k / v.size)) (zgn (k / v.size)) (zih v.size (v.pX k x).store (k / v.size)) true=xM (v.nk (k / v.size)) (zgn (k / v.size)) (zih v.size v.store (k / v.size)) true:=e
 have hs':=zii (h.pX k x).len hn
 have b1:=XM (h.nk (k / v.size)).fit (zgn (k / v.size)) (m:=zih v.size (v.pX k x).store (k / v.size)) true (by rw [show (zih v.size (v.pX k x).store (k / v.size)).length=v.size from hs'];exact (h.nk _).least)
 have b2:=XM (h.nk (k / v.size)).fit (zgn (k / v.size)) (m:=zih v.size v.store (k / v.size)) true (by rw [hs];exact (h.nk _).least)
 rw [e1,b2] at b1
 have e2:=congrArg (fun l:List UInt8=>l[k % v.size]?) b1
 have e3:(zih v.size v.store (k / v.size))[k % v.size]? = v.store[k]?:=by rw [zsk,if_pos hm,hd]
 have e4:(zih v.size (v.pX k x).store (k / v.size))[k % v.size]? = (v.pX k x).store[k]?:=by rw [zsk,if_pos hm,hd]
 simp only [e3,e4] at e2
 have e5:(v.pX k x).store[k]? = some (v.store.getD k 0 ^^^ x):=uW hl
 rw [e5,gD hl,gp,gD hl] at e2
 simp only [lD,Option.some.injEq] at e2
 apply hx
 have e6:v.store[k] ^^^ (v.store[k] ^^^ x)=v.store[k] ^^^ v.store[k]:=by rw [← e2]
 rw [← nS,zlS,UInt8.zero_xor] at e6
 exact e6
theorem jz {v:Vol} (h:v.pg) {k:Nat} {x:UInt8} (hk:k < v.size*v.mK):(v.pX k x).pX k x=v:=by
 have hl:k < v.store.length:=by rw [h.len];exact hk
 unfold Vol.pX
 simp only [List.set_set]
 have e:(v.store.set k (v.store.getD k 0 ^^^ x)).getD k 0 ^^^ x=v.store.getD k 0:=by
  rw [gp,uW hl,lD,nS,zlS,UInt8.xor_zero]
 rw [e]
 have e2:v.store.set k (v.store.getD k 0)=v.store:=by
  rw [gp,gD hl,lD]
  exact List.set_getElem_self hl
 rw [e2]
end Go.Vol
namespace Go.Vol
open Ops Oct Aes Adi Wid
def Vol.begin' (v:Vol) (k:ku):Vol:={ v with next:=some k,moved:=0 }
theorem Vol.pg.begin' {v:Vol} (h:v.pg) {k:ku} (hk:zq3 v.size k):(v.begin' k).pg :=
 ⟨h.size,h.mK,h.len,h.now,fun j e=>by cases e;exact ⟨hk,h.mK.1⟩⟩
theorem zso {v:Vol} (hn:v.next=none) (k:ku) (n:Nat):(v.begin' k).nk n=v.nk n:=by
 unfold Vol.nk Vol.begin'
 rw [hn]
 simp
theorem zrp {v:Vol} (hn:v.next=none) (k:ku) (n:Nat):(v.begin' k).sec n=v.sec n:=by
 unfold Vol.sec
 rw [zso hn]
 rfl
theorem zrq {v:Vol} (k:ku):(v.step k).alg=v.alg∧(v.step k).size=v.size∧(v.step k).mK=v.mK∧(v.step k).moved=v.moved+1 ∧
  (v.step k).next=(if v.moved+1=v.mK then none else some k)∧(v.step k).now=(if v.moved+1=v.mK then k else v.now):=by
 unfold Vol.step
 split <;> simp
def q5 (k:ku):Nat→Vol→Vol
 | 0,v=>v
 | j+1,v=>q5 k j (v.step k)
theorem zrz {k:ku}:∀ (j:Nat) {v:Vol},v.pg→v.next=some k→v.moved+j≤v.mK →
  (q5 k j v).pg∧(q5 k j v).size=v.size∧(q5 k j v).mK=v.mK∧(q5 k j v).moved=v.moved+j∧(∀ m,m < v.mK→(q5 k j v).sec m=v.sec m) ∧
   (0 < j→(q5 k j v).next=(if v.moved+j=v.mK then none else some k)∧(q5 k j v).now=(if v.moved+j=v.mK then k else v.now))
 | 0,v,h,hn,hj=>⟨h,rfl,rfl,rfl,fun _ _=>rfl,fun h=>absurd h (by omega)⟩
 | j+1,v,h,hn,hj=>by
  obtain ⟨f0,f1,f2,f3,f4,f5⟩:=zrq (v:=v) k
  by_cases hl:v.moved+1=v.mK
  ·obtain rfl:j=0:=by omega
   rw [if_pos hl] at f4 f5
   exact ⟨h.step hn,f1,f2,f3,fun m hm=>zrj h hn hm,fun _=>by rw [if_pos hl,if_pos hl];exact ⟨f4,f5⟩⟩
  ·rw [if_neg hl] at f4 f5
   obtain ⟨g0,g1,g2,g3,g4,g5⟩:=zrz j (h.step hn) f4 (by rw [f3,f2];omega)
   refine ⟨g0,g1.trans f1,g2.trans f2,by show (q5 k j (v.step k)).moved=_;rw [g3,f3];omega,fun m hm=>?_,fun _=>?_⟩
   ·show (q5 k j (v.step k)).sec m=_
    rw [g4 m (by rw [f2];exact hm),zrj h hn hm]
   ·show (q5 k j (v.step k)).next=_∧(q5 k j (v.step k)).now=_
    by_cases hj0:0 < j
    ·obtain ⟨e1,e2⟩:=g5 hj0
     rw [e1,e2,f3,f2,f5,show v.moved+1+j=v.moved+(j+1) by omega]
     exact ⟨rfl,rfl⟩
    ·obtain rfl:j=0:=by omega
     show (v.step k).next=_∧(v.step k).now=_
     rw [if_neg (by omega),if_neg (by omega)]
     exact ⟨f4,f5⟩
def Vol.r9 (v:Vol) (k:ku):Vol:=q5 k v.mK (v.begin' k)
theorem zsw {v:Vol} (h:v.pg) (hn:v.next=none) {k:ku} (hk:zq3 v.size k) :
  (v.r9 k).pg∧(v.r9 k).size=v.size∧(v.r9 k).mK=v.mK∧(v.r9 k).next=none∧(v.r9 k).now=k∧∀ m,m < v.mK→(v.r9 k).sec m=v.sec m:=by
 obtain ⟨g0,g1,g2,g3,g4,g5⟩:=zrz (k:=k) v.mK (h.begin' hk) rfl (by show 0+v.mK≤v.mK;omega)
 obtain ⟨e1,e2⟩:=g5 (by have:=h.mK.1;omega)
 have hz:(v.begin' k).moved+v.mK=(v.begin' k).mK:=by show 0+v.mK=v.mK;omega
 rw [if_pos hz] at e1 e2
 exact ⟨g0,g1,g2,e1,e2,fun m hm=>(g4 m hm).trans (zrp hn k m)⟩
theorem zhG {v:Vol} (h:v.pg) {n:Nat} (hn:n < v.mK):xM (v.nk n) (zgn n) (v.sec n) false=zih v.size v.store n :=
 XM (h.nk n).fit _ (m:=zih v.size v.store n) true (by rw [zii h.len hn];exact (h.nk n).least)
end Go.Vol
namespace Go.Vol
open Ops Oct Aes Adi Wid
def Vol.has (v:Vol) (n:Int):Prop:=0≤n∧n < (v.mK:Int)
instance (v:Vol) (n:Int):Decidable (v.has n):=by unfold Vol.has;infer_instance
def Vol.read (v:Vol) (n:Int):Vol×Int:=if v.has n then ({ v with reads:=v.reads+1 },0) else (v,11)
def Vol.write (v:Vol) (n:Int) (b:List UInt8):Vol×Int:=if v.has n then (if b.length=v.size then (v.put n.toNat b,0) else (v,4)) else (v,11)
def Vol.harm (v:Vol) (k:Int) (x:UInt8):Vol×Int:=if 0≤k∧k < ((v.size*v.mK:Nat):Int) then (v.pX k.toNat x,0) else (v,11)
def Vol.start (v:Vol) (key:List UInt8):Vol×Int:=match v.next with
 | some _=>(v,12)
 | none=>if ni v.alg key.length=0 then (v.begin' (jy v.alg key),0) else (v,(ni v.alg key.length:Nat))
def Vol.move (v:Vol):Vol×Int:=match v.next with
 | some k=>(v.step k,0)
 | none=>(v,12)
def Vol.all (v:Vol) (key:List UInt8):Vol×Int:=match v.next with
 | some _=>(v,12)
 | none=>if ni v.alg key.length=0 then (v.r9 (jy v.alg key),0) else (v,(ni v.alg key.length:Nat))
def pW (k:Int):Nat:=if k < 0∨6 < k then 1 else k.toNat
theorem zsx (k:Int):pW k≤6:=by unfold pW;split <;> omega
def Vol.act (v:Vol) (kd:Nat) (n:Int) (b:List UInt8) (x:UInt8):Vol×Int:=match kd with
 | 0=>v.write n b
 | 3=>v.harm n x
 | 4=>v.start b
 | 5=>v.move
 | 6=>v.all b
 | _=>v.read n
theorem Vol.pg.count {v:Vol} (h:v.pg) (r w:Nat):({ v with reads:=r,writes:=w }:Vol).pg:=⟨h.size,h.mK,h.len,h.now,h.next⟩
def Form (v v':Vol):Prop:=v'.alg=v.alg∧v'.size=v.size∧v'.mK=v.mK
theorem Form.refl (v:Vol):Form v v:=⟨rfl,rfl,rfl⟩
theorem Form.trans {u v w:Vol} (h:Form u v) (k:Form v w):Form u w:=⟨k.1.trans h.1,k.2.1.trans h.2.1,k.2.2.trans h.2.2⟩
theorem ztw (v:Vol) (n:Nat) (b:List UInt8):Form v (v.put n b):=⟨rfl,rfl,rfl⟩
theorem zsp (v:Vol) (k:Nat) (x:UInt8):Form v (v.pX k x):=⟨rfl,rfl,rfl⟩
theorem zr0 (k:ku):∀ (j:Nat) (v:Vol),Form v (q5 k j v)∧(q5 k j v).reads=v.reads∧(q5 k j v).writes=v.writes
 | 0,v=>⟨Form.refl _,rfl,rfl⟩
 | j+1,v=>by
  obtain ⟨h1,h2,h3⟩:=zr0 k j (v.step k)
  obtain ⟨e1,e2,e3,e4,e5⟩:=zq5 v k
  exact ⟨Form.trans (v:=v.step k) ⟨e3,e1,e2⟩ h1,h2.trans e4,h3.trans e5⟩
theorem zr1 (v:Vol) (k:ku):Form v (v.r9 k)∧(v.r9 k).reads=v.reads∧(v.r9 k).writes=v.writes:=by
 obtain ⟨h1,h2,h3⟩:=zr0 k v.mK (v.begin' k)
 exact ⟨Form.trans (v:=v.begin' k) ⟨rfl,rfl,rfl⟩ h1,h2,h3⟩
structure Did (v:Vol) (kd:Nat) (n:Int) (b:List UInt8) (r:Vol×Int):Prop where
 pq:r.1.pg
 form:Form v r.1
 reads:r.1.reads≤v.reads+1
 writes:r.1.writes≤v.writes+1
 off:r.2≠0→r.1=v
 secs:kd≠3→∀ m,m < v.mK→r.1.sec m=if kd=0∧r.2=0∧n=(m:Int) then b else v.sec m
 bytes:kd=0→r.2=0→v.has n∧b.length=v.size
 next:kd < 4∨6 < kd→r.1.next=v.next∧r.1.now=v.now
theorem zlr {v:Vol} (h:v.pg) (kd:Nat) (n:Int) (b:List UInt8) {e:Int} (he:e≠0):Did v kd n b (v,e) :=
 ⟨h,Form.refl _,dA _,dA _,fun _=>rfl,fun _ m _=>by rw [if_neg (fun hh=>he hh.2.1)],fun _ hh=>absurd hh he,fun _=>⟨rfl,rfl⟩⟩
theorem zrw {v:Vol} (h:v.pg) (kd:Nat) (n:Int) (b:List UInt8) (x:UInt8):Did v kd n b (v.act kd n b x):=by
 have rd:kd≠0→Did v kd n b (v.read n):=fun hk=>by
  unfold Vol.read
  split
  ·exact ⟨h.count _ _,⟨rfl,rfl,rfl⟩,xc _,dA _,fun hh=>absurd rfl hh,fun _ m _=>by rw [if_neg (fun hh=>hk hh.1)];rfl,fun hh=>absurd hh hk,fun _=>⟨rfl,rfl⟩⟩
  ·exact zlr h _ _ _ (by decide)
 have st:kd=4→Did v kd n b (v.start b):=fun hk=>by
  unfold Vol.start
  split
  ·exact zlr h _ _ _ (by decide)
  ·next hn =>
   split
   ·exact ⟨h.begin' (znp _ _ h.size.1),⟨rfl,rfl,rfl⟩,dA _,dA _,fun hh=>absurd rfl hh,fun _ m _=>by rw [if_neg (fun hh=>by omega)];exact zrp hn _ _,fun hh=>by omega,fun hh=>by omega⟩
   ·next hw=>exact zlr h _ _ _ (by omega)
 have mv:kd=5→Did v kd n b v.move:=fun hk=>by
  unfold Vol.move
  split
  ·next k hn =>
   obtain ⟨e1,e2,e3,e4,e5⟩:=zq5 v k
   exact ⟨h.step hn,⟨e3,e1,e2⟩,by rw [e4];omega,by rw [e5];omega,fun hh=>absurd rfl hh,fun _ m hm=>by rw [if_neg (fun hh=>by omega)];exact zrj h hn hm,fun hh=>by omega,fun hh=>by omega⟩
  ·exact zlr h _ _ _ (by decide)
 have al:kd=6→Did v kd n b (v.all b):=fun hk=>by
  unfold Vol.all
  split
  ·exact zlr h _ _ _ (by decide)
  ·next hn =>
   split
   ·obtain ⟨g0,g1,g2,g3,g4,g5⟩:=zsw h hn (znp v.alg b h.size.1)
    obtain ⟨f0,f1,f2⟩:=zr1 v (jy v.alg b)
    exact ⟨g0,f0,by rw [f1];omega,by rw [f2];omega,fun hh=>absurd rfl hh,fun _ m hm=>by rw [if_neg (fun hh=>by omega)];exact g5 m hm,fun hh=>by omega,fun hh=>by omega⟩
   ·next hw=>exact zlr h _ _ _ (by omega)
 have wr:kd=0→Did v kd n b (v.write n b):=fun hk=>by
  unfold Vol.write
  split
  ·next hn =>
   split
   ·next hb =>
    have hnn:n.toNat < v.mK:=by unfold Vol.has at hn;omega
    refine ⟨h.put hnn hb,ztw _ _ _,dA _,xc _,fun hh=>absurd rfl hh,fun _ m hm=>?_,fun _ _=>⟨hn,hb⟩,fun _=>⟨rfl,rfl⟩⟩
    show (v.put n.toNat b).sec m=_
    rw [zte h hnn hb]
    unfold Vol.has at hn
    by_cases e:m=n.toNat
    ·rw [if_pos e,if_pos ⟨hk,rfl,by omega⟩]
    ·rw [if_neg e,if_neg (fun hh=>e (by omega))]
   ·exact zlr h _ _ _ (by decide)
  ·exact zlr h _ _ _ (by decide)
 have hm:kd=3→Did v kd n b (v.harm n x):=fun hk=>by
  unfold Vol.harm
  split
  ·exact ⟨h.pX _ _,zsp _ _ _,dA _,dA _,fun hh=>absurd rfl hh,fun hh=>absurd hk hh,fun hh=>by omega,fun _=>⟨rfl,rfl⟩⟩
  ·exact zlr h _ _ _ (by decide)
 unfold Vol.act
 split
 ·exact wr rfl
 ·exact hm rfl
 ·exact st rfl
 ·exact mv rfl
 ·exact al rfl
 ·next h0 _ _ _ _=>exact rd (fun e=>h0 e)
end Go.Vol
namespace Go.Cells
open RowKit Mem
structure Chg (vp sp:Nat) (w w':World):Prop where
 os:w'.os=w.os
 tape:w'.tape=w.tape
 output:w'.output=w.output
 size:w.heap.size≤w'.heap.size
 block:∀ k,k < w.heap.size→k≠vp→k≠sp→w'.heap[k]? = w.heap[k]?
theorem Chg.refl (vp sp:Nat) (w:World):Chg vp sp w w:=⟨rfl,rfl,rfl,xc _,fun _ _ _ _=>rfl⟩
theorem Chg.trans {vp sp:Nat} {u v w:World} (h:Chg vp sp u v) (k:Chg vp sp v w):Chg vp sp u w :=
 ⟨k.os.trans h.os,k.tape.trans h.tape,k.output.trans h.output,uj h.size k.size,fun i hi h1 h2=>(k.block i (bI hi h.size) h1 h2).trans (h.block i hi h1 h2)⟩
theorem Chg.of_below {vp sp:Nat} {w w':World} (h:Below w.heap.size w w'):Chg vp sp w w':=⟨h.os,h.tape,h.output,h.size,fun k hk _ _=>h.block k hk⟩
theorem Chg.rA {vp sp:Nat} {w w':World} (h:zI sp w w'):Chg vp sp w w':=⟨h.os,h.tape,h.output,h.size,fun k hk _ h2=>h.block k hk h2⟩
theorem Chg.of_cell {vp sp:Nat} {w w':World} (h:zI vp w w'):Chg vp sp w w':=⟨h.os,h.tape,h.output,h.size,fun k hk h1 _=>h.block k hk h1⟩
theorem Chg.drew {vp sp:Nat} {w w':World} (h:Chg vp sp w w'):Chg vp sp w w'.drew:=⟨h.os,h.tape,h.output,h.size,h.block⟩
theorem Chg.bel {B vp sp:Nat} {u w w':World} (hb:Below B u w) (h:Chg vp sp w w') (h0:B≤w.heap.size) (h1:B≤vp) (h2:B≤sp):Below B u w' :=
 ⟨h.os.trans hb.os,h.tape.trans hb.tape,h.output.trans hb.output,uj hb.size h.size,fun k hk=>(h.block k (bI hk h0) (by omega) (by omega)).trans (hb.block k hk)⟩
theorem Blk.chg {vp sp b:Nat} {w w':World} {vs:List Value} {ty:TypeId} (h:Blk w b vs ty) (hc:Chg vp sp w w') (h1:b≠vp) (h2:b≠sp):Blk w' b vs ty:=(hc.block b h.lt h1 h2).trans h
theorem St.chg {vp sp:Nat} {w0 w w':World} {base:Nat} {L:List (Nat×List Value×TypeId)} (h:St w0 base w L) (hc:Chg vp sp w w') (h1:base≤vp) (h2:base≤sp) (hne:∀ e∈L,e.1≠vp∧e.1≠sp):St w0 base w' L :=
 ⟨h.nW,hc.bel h.bel h.size h1 h2,fun e he=>(h.all e he).chg hc (hne e he).1 (hne e he).2⟩
end Go.Cells
namespace Go.Proofs.YtjaioajjfiaheaaGreatDoor
open RowKit Mem Ops Cells Oct Trn Aes Ring Ezk Blake Adi Hct Wid Vol Fl
attribute [local irreducible] zE zN zO zM yu
theorem _root_.Go.Cells.Chg.up {F:List Nat} {vp sp:Nat} {w w':World} (h:Chg vp sp w w') (hin:vp∈F∧sp∈F):Up (zsm F) w w':=⟨h.size,fun i hi hl=>h.block i hl (fun e=>hi (e ▸ hin.1)) (fun e=>hi (e ▸ hin.2))⟩
theorem zru (x:Int):Tryz.prog.built 119 [(0,.int .u64 x)]=some #[.int .u64 x,.int .u64 0]:=by kernel_rfl
theorem zsf (n:Nat) (w:World) (hn:n≤1000000) :
  Calls Tryz.prog 68 #[.int .i64 n] w fun e w'=>∃ g,e=.returned (.slice (some ⟨g,0,none⟩) 16 16)∧zr w' (some ⟨g,0,none⟩) ((zgn n).map B)∧Below w.heap.size w w':=by
 obtain ⟨um,hum⟩:∃ um,um=UInt64.ofNat n:=⟨_,rfl⟩
 have hcv:IntKind.u64.wrap (n:Int)=(um.toNat:Int):=by rw [hum];exact zbb n
 have HT:=znq (show zgn n=zz um++zz 0∧(zz um++zz 0).length=16 from ⟨by rw [hum];rfl,by rw [List.length_append,zK,zK]⟩)
 have hbu:=zru (um.toNat:Int)
 have HS:=znq (St.start w)
 clear hum
 go_enter Tryz.func68,Tryz.ntmps68
 go_wp2_with fail
 refine (k5 um 0 _).mono ?_
 rintro e w2 ⟨rfl,hbel⟩
 have HS:=znq (HS.znr.later hbel)
 clear hbel hbu hcv
 go_wp2_with (first | (refine ze 117 ((zf 16).map B) _ rfl rfl zj rfl ?_) | (refine (HS.znr.get 0 rfl).mM rfl rfl rfl (cs:=(zz um++zz 0).map B) rfl zc (by rw [yf];exact zd 16) (by rw [yf];exact HT.znr.2) (zg _) ?_))
 intro w3 hb hbel
 have HZ:=znq HS.znr.size
 have HS:=znq (HS.znr.push hb hbel)
 clear hb hbel
 go_wp2_with (refine (HS.znr.get 0 rfl).mM rfl rfl rfl (cs:=(zz um++zz 0).map B) rfl zc (by rw [yf];exact zd 16) (by rw [yf];exact HT.znr.2) (zg _) ?_)
 intro w4 hb ho
 have HB:=znq (zk HS.znr.bel ho HZ.znr)
 have HL:=znq hb.lies
 clear hb ho
 go_wp2
 go_ret
 exact ⟨_,rfl,by rw [HT.znr.1];exact HL.znr,HB.znr⟩
theorem zsq {w:World} {F:List Nat} {q vp sp:Nat} {v:Vol} {load:Value} {np:Nat} {xp:Value} (n:Nat) (h:y4 104 F w q vp sp v load np xp) (hn:n < v.mK) :
  Calls Tryz.prog 91 #[.pointer (some ⟨vp,0,none⟩),.int .i64 n] w fun e w'=>e=.returned (.slice (some ⟨sp,n*v.size,none⟩) v.size (v.size*v.mK - n*v.size))∧Below w.heap.size w w':=by
 have hf:=fits (size:=v.size) hn
 have hs0:=h.pq.size
 have hs1:=h.pq.mK
 have HC:=znq h.cells
 obtain ⟨al,hal⟩:∃ x,x=v.alg:=⟨_,rfl⟩
 obtain ⟨sz,hsz⟩:∃ x,x=v.size:=⟨_,rfl⟩
 obtain ⟨st,hst⟩:∃ x,x=v.size*v.mK:=⟨_,rfl⟩
 obtain ⟨lo,hlo⟩:∃ x,x=n*v.size:=⟨_,rfl⟩
 obtain ⟨hi,hhi⟩:∃ x,x=n*v.size+v.size:=⟨_,rfl⟩
 have h1m:st≤1048576:=by rw [hst];exact Nat.mul_le_mul hs0.2 hs1.2
 have e1:IntKind.i64.wrap ((n:Int)*(sz:Int))=(lo:Int):=by
  have e:((n:Int)*(sz:Int))=(lo:Int):=by rw [hlo,hsz];push_cast;rfl
  rw [e];exact IntWalk.i64_in _ (by omega)
 have e2:IntKind.i64.wrap ((n:Int)+1)=((n+1:Nat):Int):=by rw [show (n:Int)+1=((n+1:Nat):Int) by omega];exact IntWalk.i64_in _ (by omega)
 have e3:IntKind.i64.wrap (((n+1:Nat):Int)*(sz:Int))=(hi:Int):=by
  have e:(((n+1:Nat):Int)*(sz:Int))=(hi:Int):=by rw [hhi,hsz,← Nat.succ_mul];push_cast;rfl
  rw [e];exact IntWalk.i64_in _ (by omega)
 have hca:yy (some ⟨sp,0,none⟩) st lo=some ⟨sp,lo,none⟩:=by
  unfold yy
  rw [if_neg (by omega)]
  simp only [cB,add_eq,bH]
 have hcut:∀ w',(Instr.slice 22 (.slice (some ⟨sp,0,none⟩) st st) (some (.int .i64 (lo:Int))) (some (.int .i64 (hi:Int))) none).run Tryz.prog w'=.ok (.slice (some ⟨sp,lo,none⟩) sz (st - lo)) w':=fun w'=>by
  have h:=zlu (P:=Tryz.prog) w' 22 5 Tryz.underlying22 (fun w=>by kernel_rfl) (some ⟨sp,0,none⟩) st st lo hi (lo:Int) (hi:Int) rfl rfl (by omega) (by omega)
  rwa [hca,show hi - lo=sz by omega] at h
 clear hca
 rw [← hlo,← hst,← hsz]
 have HE:=znq (show zgl q v np xp sp load=[.pointer (some ⟨q,0,none⟩),.int .i64 al,.int .i64 sz,.int .i64 v.mK,.pointer (some ⟨np,0,none⟩),xp,.int .i64 v.moved,.slice (some ⟨sp,0,none⟩) st st,load] from by unfold zgl;rw [hal,hsz,hst])
 have hc2:=fun (x:zG w.drew)=>(HC.znr.drew.below x.later HC.znr.drew.lt).cell 2 (.int .i64 sz) (by rw [HE.znr];rfl)
 have hc7:=fun (x:zG w.drew)=>(HC.znr.drew.below x.later HC.znr.drew.lt).cell 7 (.slice (some ⟨sp,0,none⟩) st st) (by rw [HE.znr];rfl)
 generalize ((n+1:Nat):Int)=n1 at *
 clear hal hsz hst hlo hhi hf hs0 hs1 hn h1m
 go_enter Tryz.func91,Tryz.ntmps91
 go_wp2_with fail
 refine zn [0,1,2,3,4,5,6,7,8,9,10,11,12,13,14,15,16,17,18,19,20] (by kernel_rfl) (by kernel_rfl) ?_
 rintro w2 rfl
 refine mqR ?_
 refine zo ?_
 go_wp2
 go_ret
 exact ⟨rfl,(Below.refl _ _).drew⟩
theorem zr2 {w:World} {F:List Nat} {q vp sp:Nat} {v:Vol} {load:Value} {np:Nat} {xp:Value} (n:Nat) (h:y4 104 F w q vp sp v load np xp) :
  Calls Tryz.prog 67 #[.pointer (some ⟨vp,0,none⟩),.int .i64 n] w fun e w'=>∃ cp,e=.returned (.pointer (some ⟨cp,0,none⟩))∧zij F w (fun w''=>qu w'' cp (v.nk n))∧w=w':=by
 have hc4:=h.cells.cell 4 (.pointer (some ⟨np,0,none⟩)) rfl
 have hc5:=h.cells.cell 5 xp rfl
 have hc6:=h.cells.cell 6 (.int .i64 v.moved) rfl
 rcases h.nk n with ⟨e,hx⟩ | ⟨k,hk,hn,e⟩
 ·have HR:=znq (show zij F w (fun w''=>qu w'' np (v.nk n)) from by rw [e];exact h.now)
  generalize v.moved=mv at *
  have hd:xp=.pointer none∨∃ x,xp=.pointer (some ⟨x,0,none⟩)∧decide (n < mv)=false:=by
   have hh:=h.next
   cases hxx:v.next with
   | none=>rw [hxx] at hh;exact .inl hh
   | some k =>
    rw [hxx] at hh
    obtain ⟨x,hx',_⟩:=hh
    refine .inr ⟨x,hx',?_⟩
    rcases hx with hx | hx
    ·rw [hxx] at hx;cases hx
    ·simp;omega
  clear h e hx
  rcases hd with rfl | ⟨x,rfl,hd⟩
  ·go_enter Tryz.func67,Tryz.ntmps67
   go_wp2
   go_ret
   exact ⟨_,rfl,HR.znr,rfl⟩
  ·go_enter Tryz.func67,Tryz.ntmps67
   go_wp2
   go_ret
   exact ⟨_,rfl,HR.znr,rfl⟩
 ·have hh:=h.next
  rw [hk] at hh
  obtain ⟨x,rfl,hkk⟩:=hh
  have HR:=znq (show zij F w (fun w''=>qu w'' x (v.nk n)) from by rw [e];exact hkk)
  generalize v.moved=mv at *
  have hd:decide (n < mv)=true:=by simp;omega
  clear h hk hn e hkk
  go_enter Tryz.func67,Tryz.ntmps67
  go_wp2
  go_ret
  exact ⟨_,rfl,HR.znr,rfl⟩
theorem zrk {w:World} {F:List Nat} {q vp sp:Nat} {v:Vol} {load:Value} {np:Nat} {xp:Value} (cp:Nat) (k:ku) (n:Nat) (back:Bool) (h:y4 104 F w q vp sp v load np xp) (hk:qu w cp k) (hle:k.least≤v.size) (hn:n < v.mK) :
  Calls Tryz.prog 69 #[.pointer (some ⟨vp,0,none⟩),.pointer (some ⟨cp,0,none⟩),.int .i64 n,.bool back] w fun e w'=>(∃ z,e=.returned z)∧Blk w' sp ((zil v.size k v.store n back).map B) 5∧zI sp w w':=by
 have hs0:=h.pq.size
 have hs1:=h.pq.mK
 have HH:=znq h
 have HK:=znq hk
 have HN:=znq hn
 have HLE:=znq hle
 have hn6:n≤1000000:=by omega
 clear h hk hle hs1 hn
 go_enter Tryz.func69,Tryz.ntmps69
 go_wp2_with fail
 refine (zsf n _ hn6).mono ?_
 rintro e w2 ⟨g,rfl,hl,hbel⟩
 have HL:=znq hl
 have HH2:=znq (HH.znr.below hbel)
 have HB:=znq hbel
 clear hl hbel
 go_wp2_with fail
 refine (zsq n HH2.znr HN.znr).mono ?_
 rintro e w3 ⟨rfl,hbel⟩
 have HL:=znq (HL.znr.below hbel)
 have HH3:=znq (HH2.znr.below hbel)
 have hz:=HB.znr.size
 have HB:=znq (HB.znr.trans (hbel.mono hz))
 clear hbel HH2
 go_wp2_with fail
 refine (ztk cp k (some ⟨g,0,none⟩) 16 16 (zgn n) sp (n*v.size) v.size (v.size*v.mK - n*v.size) (v.store.map B) (zih v.size v.store n) back _ (HK.znr.later HB.znr) (zq2 n) (by omega) (by omega) HL.znr (zii HH.znr.pq.len HN.znr) HLE.znr (by omega) (by have:=fits (size:=v.size) HN.znr;omega) HH3.znr.store (by unfold zih;rw [bN,dz]) (by rw [yf,HH.znr.pq.len];exact fits HN.znr)).mono ?_
 rintro e w4 ⟨rfl,hb,ho⟩
 have HR:=znq hb
 have HO:=znq ((zI.of_below HB.znr).trans ho)
 clear hb ho
 go_wp2
 go_end0
 refine ⟨⟨_,rfl⟩,?_,HO.znr⟩
 have hsp:splice (v.store.map B) (n*v.size) ((xM k (zgn n) (zih v.size v.store n) back).map B)=(zil v.size k v.store n back).map B:=by
  unfold zil zrc splice
  simp only [uI,bN,dz,yf,QA]
 rw [← hsp]
 exact HR.znr
end Go.Proofs.YtjaioajjfiaheaaGreatDoor
namespace Go.Mem
open RowKit Cells Ops
theorem YK {w:World} {base n:Nat} {e:TypeId} {v:Value} {xs:List Value} (h:w.ownsRow base e 1 v n xs) (hn:0 < n):∃ g cap tl,v=.slice (some ⟨g,0,none⟩) n cap∧Blk w g (xs++tl) e∧base≤g∧n≤cap:=by
 rcases h.2 with ⟨_,h0⟩ | ⟨g,cap,cur,rfl,hb,hg,h1,h2,h3,ht⟩
 ·omega
 ·refine ⟨g,cap,cur.toList.drop (n*1),rfl,?_,hb,h1⟩
  rw [← ht,List.take_append_drop]
  unfold Blk
  rw [hg]
theorem ZY {w:World} {g:Nat} {xs tl:List Value} {ty:TypeId} (h:Blk w g (xs++tl) ty):zr w (some ⟨g,0,none⟩) xs:=by
 have:=h.lies.take xs.length
 rwa [List.take_left] at this
end Go.Mem
namespace Go.Cells
open RowKit Mem
def Zt (S:Nat→Prop) (w:World) (X:World→Prop):Prop:=∀ w',Up S w w'→X w'
theorem Zt.later {S:Nat→Prop} {w w':World} {X:World→Prop} (h:Zt S w X) (hb:Below w.heap.size w w'):Zt S w' X:=fun w'' hu=>h w'' ((Up.of_below hb).trans hu)
theorem Zt.only {S:Nat→Prop} {b:Nat} {w w':World} {X:World→Prop} (h:Zt S w X) (ho:Only b w w') (hn:¬ S b):Zt S w' X:=fun w'' hu=>h w'' ((Up.nH ho hn).trans hu)
end Go.Cells
namespace Go.Mem
open RowKit Cells Ops
theorem zI.zlU {w w':World} {g:Nat} (h:w.grownBy w' (some g)):zI g w w':=⟨h.os,h.tape,h.output,h.size,fun k hk hne=>h.block k hk (fun e=>hne (Option.some.inj e))⟩
end Go.Mem
namespace Go.Proofs.YtjaioajjfiaheaaGreatDoor
open RowKit Mem Ops Cells Oct Trn Aes Ring Ezk Blake Adi Hct Wid Vol Fl ru
attribute [local irreducible] zE zN zO zM yu
instance (b:Nat) (w:World):Nonempty (xR (zI b) w):=⟨⟨w,zI.refl b w⟩⟩
def y5 (v:Vol):Value:=.complex .f64 (fl v.reads) (fl v.writes)
theorem zs8:fl 1=4607182418800017408:=by decide +kernel
theorem ztl {a b:Nat} (ha:a≤1000000) (hb:b≤1000000):cSumBits .add .f64 (fl a) (fl b) 4607182418800017408 0=some (fl (a+1),fl b):=by
 have h1:=zsi a 1 (by omega) (by omega) (by omega)
 have h2:=zsi b 0 (by omega) (by omega) (by omega)
 rw [zs8] at h1
 rw [Qc] at h2
 simp [cSumBits,h1,h2]
theorem zs9 {a b:Nat} (ha:a≤1000000) (hb:b≤1000000):cSumBits .add .f64 (fl a) (fl b) 0 4607182418800017408=some (fl a,fl (b+1)):=by
 have h1:=zsi a 0 (by omega) (by omega) (by omega)
 have h2:=zsi b 1 (by omega) (by omega) (by omega)
 rw [Qc] at h1
 rw [zs8] at h2
 simp [cSumBits,h1,h2]
theorem y4.to {ty:TypeId} {w w':World} {F:List Nat} {q vp sp:Nat} {v v':Vol} {load load':Value} {np:Nat} {xp:Value} (h:y4 ty F w q vp sp v load np xp) (hc:Chg vp sp w w') (hb:Blk w' vp (zgl q v' np xp sp load') ty) (hs:Blk w' sp (v'.store.map B) 5) (hv:v'.pg) (hn:v'.now=v.now) (hx:v'.next=v.next):y4 ty F w' q vp sp v' load' np xp :=
 ⟨hv,h.ne,h.inF,hb,hs,by rw [hn];exact h.now.at (hc.up h.inF),by rw [hx];exact h.next.imp fun _ k=>k.at (hc.up h.inF)⟩
def Got (base:Nat) (w:World) (v:Value) (n:Nat) (xs:List UInt8):Prop:=∃ g cap tl,v=.slice (some ⟨g,0,none⟩) n cap∧n≤cap∧base≤g∧Blk w g (xs.map B++tl) 5
theorem Got.nQ {base n:Nat} {w:World} {v:Value} {xs:List UInt8} (h:w.ownsRow base 5 1 v n (xs.map B)) (hn:0 < n):Got base w v n xs:=by
 obtain ⟨g,cap,tl,rfl,hb,hg,hc⟩:=YK h hn
 exact ⟨g,cap,tl,rfl,hc,hg,hb⟩
theorem Got.up {base n:Nat} {w w':World} {v:Value} {xs:List UInt8} (h:Got base w v n xs) (hu:Up (fun i=>base≤i) w w'):Got base w' v n xs:=by
 obtain ⟨g,cap,tl,e,h1,h2,h3⟩:=h
 exact ⟨g,cap,tl,e,h1,h2,h3.up hu h2⟩
theorem Got.below {base n:Nat} {w w':World} {v:Value} {xs:List UInt8} (h:Got base w v n xs) (hb:Below w.heap.size w w'):Got base w' v n xs:=h.up (Up.of_below hb)
theorem Got.chg {base n vp sp:Nat} {w w':World} {v:Value} {xs:List UInt8} (h:Got base w v n xs) (hc:Chg vp sp w w') (h1:vp < base) (h2:sp < base):Got base w' v n xs:=h.up ⟨hc.size,fun i hi hl=>hc.block i hl (by omega) (by omega)⟩
theorem Got.only {base n b:Nat} {w w':World} {v:Value} {xs:List UInt8} (h:Got base w v n xs) (ho:Only b w w') (h1:b < base):Got base w' v n xs:=h.up (Up.nH ho (by omega))
theorem Got.le {base b n:Nat} {w:World} {v:Value} {xs:List UInt8} (h:Got base w v n xs) (hb:b≤base):Got b w v n xs:=by
 obtain ⟨g,cap,tl,e,h1,h2,h3⟩:=h
 exact ⟨g,cap,tl,e,h1,uj hb h2,h3⟩
theorem Got.lies {base n:Nat} {w:World} {v:Value} {xs:List UInt8} (h:Got base w v n xs):∃ ao cap,v=.slice ao n cap∧n≤cap∧zr w ao (xs.map B):=by
 obtain ⟨g,cap,tl,e,h1,h2,h3⟩:=h
 exact ⟨_,cap,e,h1,ZY h3⟩
theorem _root_.Go.Cells.Chg.other {vp sp b:Nat} {u v w:World} (h:Chg vp sp u v) (ho:Only b v w) (hb:u.heap.size≤b):Chg vp sp u w :=
 ⟨ho.os.trans h.os,ho.tape.trans h.tape,ho.output.trans h.output,by rw [ho.size];exact h.size,fun k hk h1 h2=>(ho.block k (by omega)).trans (h.block k hk h1 h2)⟩
theorem _root_.Go.Cells.Chg.later {vp sp:Nat} {u v w:World} (h:Chg vp sp u v) (hb:Below v.heap.size v w):Chg vp sp u w:=h.trans (Chg.of_below hb)
theorem zr3 (args:Array Value) (w:World):(callFunc 66 args).run Tryz.prog w=.ok (.enter 66 args) w:=WH Tryz.func66 (by kernel_rfl) (by kernel_rfl) args w
theorem zse (args:Array Value) (w:World):(callFunc 75 args).run Tryz.prog w=.ok (.enter 75 args) w:=WH Tryz.func75 (by kernel_rfl) (by kernel_rfl) args w
theorem zrv (args:Array Value) (w:World):(callFunc 79 args).run Tryz.prog w=.ok (.enter 79 args) w:=WH Tryz.func79 (by kernel_rfl) (by kernel_rfl) args w
theorem zq8:(Tryz.prog.info? 22).map (·.zero)=some (some (.slice none 0 0)):=by kernel_rfl
theorem zrl:(Tryz.prog.info? 22).map (·.size)=some 1:=by kernel_rfl
theorem zrh:(Tryz.prog.info? 71).map (·.size)=some 1:=by kernel_rfl
theorem zsy {w:World} {F:List Nat} {q vp sp:Nat} {v:Vol} {load:Value} {np:Nat} {xp:Value} (n:Int) (do':Value) (h:y4 104 F w q vp sp v load np xp) (hn:¬ v.has n) :
  Calls Tryz.prog 65 #[.pointer (some ⟨vp,0,none⟩),.int .i64 n,do'] w fun e w'=>e=.returned (.int .i64 11)∧w=w':=by
 have hc3:=h.cells.cell 3 (.int .i64 v.mK) rfl
 unfold Vol.has at hn
 generalize v.mK=ss at *
 by_cases h0:n < 0
 ·have d0:decide (n < 0)=true:=by simp;omega
  clear h h0 hn
  go_enter Tryz.func65,Tryz.ntmps65
  go_wp2
  go_ret
  exact ⟨rfl,rfl⟩
 ·have d0:decide (n < 0)=false:=by simp;omega
  have d1:decide (n≥(ss:Int))=true:=by simp;omega
  have d2:decide ((ss:Int)≤n)=true:=by simp;omega
  clear h h0 hn
  go_enter Tryz.func65,Tryz.ntmps65
  go_wp2
  go_ret
  exact ⟨rfl,rfl⟩
theorem zsg {w:World} {F:List Nat} {q vp sp:Nat} {v:Vol} {load:Value} {np:Nat} {xp:Value} (fid:Nat) (c1 c2 c3:Value) (n:Nat) (R:Int→World→Prop) (h:y4 104 F w q vp sp v load np xp) (hn:n < v.mK) (hF:∀ args w,(callFunc fid args).run Tryz.prog w=.ok (.enter fid args) w)
  (hd:∀ w',Below w.heap.size w w'→Calls Tryz.prog fid #[.slice (some ⟨sp,n*v.size,none⟩) v.size (v.size*v.mK - n*v.size),c1,c2,c3] w' fun e w''=>∃ c,e=.returned (.int .i64 c)∧R c w'') :
  Calls Tryz.prog 65 #[.pointer (some ⟨vp,0,none⟩),.int .i64 n,.func (.func fid) #[] #[c1,c2,c3]] w fun e w'=>∃ c,e=.returned (.int .i64 c)∧R c w':=by
 have hc3:=h.cells.cell 3 (.int .i64 v.mK) rfl
 have HO:=znq (zsq n h hn)
 have HD:=znq hd
 generalize v.size=sz at *
 generalize v.mK=ss at *
 have d1:decide ((n:Int)≥(ss:Int))=false:=by simp;omega
 have d2:decide (ss≤n)=false:=by simp;omega
 clear h hd hn
 go_enter Tryz.func65,Tryz.ntmps65
 go_wp2_with fail
 refine HO.znr.mono ?_
 rintro e w2 ⟨rfl,hbel⟩
 have HB:=znq hbel
 clear hbel hc3 d1 d2
 go_wp2_with fail
 refine (HD.znr _ HB.znr).mono ?_
 rintro e w3 ⟨c,rfl,hr⟩
 have HR:=znq hr
 clear hr
 go_wp2
 go_ret
 exact ⟨_,rfl,HR.znr⟩
theorem ztm {w:World} {F:List Nat} {q vp sp:Nat} {v:Vol} {load:Value} {np:Nat} {xp:Value} (fid:Nat) (c1:Value) (n:Nat) (R:Int→World→Prop) (h:y4 104 F w q vp sp v load np xp) (hn:n < v.mK) (hF:∀ args w,(callFunc fid args).run Tryz.prog w=.ok (.enter fid args) w)
  (hd:∀ w',Below w.heap.size w w'→Calls Tryz.prog fid #[.slice (some ⟨sp,n*v.size,none⟩) v.size (v.size*v.mK - n*v.size),c1] w' fun e w''=>∃ c,e=.returned (.int .i64 c)∧R c w'') :
  Calls Tryz.prog 65 #[.pointer (some ⟨vp,0,none⟩),.int .i64 n,.func (.func fid) #[] #[c1]] w fun e w'=>∃ c,e=.returned (.int .i64 c)∧R c w':=by
 have hc3:=h.cells.cell 3 (.int .i64 v.mK) rfl
 have HO:=znq (zsq n h hn)
 have HD:=znq hd
 generalize v.size=sz at *
 generalize v.mK=ss at *
 have d1:decide ((n:Int)≥(ss:Int))=false:=by simp;omega
 have d2:decide (ss≤n)=false:=by simp;omega
 clear h hd hn
 go_enter Tryz.func65,Tryz.ntmps65
 go_wp2_with fail
 refine HO.znr.mono ?_
 rintro e w2 ⟨rfl,hbel⟩
 have HB:=znq hbel
 clear hbel hc3 d1 d2
 go_wp2_with fail
 refine (HD.znr _ HB.znr).mono ?_
 rintro e w3 ⟨c,rfl,hr⟩
 have HR:=znq hr
 clear hr
 go_wp2
 go_ret
 exact ⟨_,rfl,HR.znr⟩
theorem ztn {w0 w:World} {F:List Nat} {q vp sp:Nat} {v:Vol} {np:Nat} {xp:Value} (b1 b2 b3 n:Nat) (h:y4 104 F w0 q vp sp v (y5 v) np xp) (hb:Below w0.heap.size w0 w) (hn:n < v.mK) (hr:v.reads≤1000000∧v.writes≤1000000)
  (h1:Blk w b1 [.pointer (some ⟨vp,0,none⟩)] 49) (h2:Blk w b2 [.int .i64 n] 3) (h3:Blk w b3 [.slice none 0 0] 22) (g1:w0.heap.size≤b1) (g2:w0.heap.size≤b2) (g3:w0.heap.size≤b3) :
  Calls Tryz.prog 66 #[.slice (some ⟨sp,n*v.size,none⟩) v.size (v.size*v.mK - n*v.size),.pointer (some ⟨b1,0,none⟩),.pointer (some ⟨b2,0,none⟩),.pointer (some ⟨b3,0,none⟩)] w fun e w'=>∃ c:Int,e=.returned (.int .i64 c)∧c=0∧∃ val,Blk w' b3 [val] 22∧Got w.heap.size w' val v.size (v.sec n) ∧
   y4 104 F w' q vp sp (v.read n).1 (y5 (v.read n).1) np xp∧Chg vp sp w0 w':=by
 have hvw:=h.below hb
 have hlv:=h.cells.lt
 have hls:=h.store.lt
 have hs0:=h.pq.size
 have hs1:=h.pq.mK
 have hf:=fits (size:=v.size) hn
 obtain ⟨v',hv'⟩:∃ v',v'=(v.read n).1:=⟨_,rfl⟩
 have hv2:v'={ v with reads:=v.reads+1 }:=by rw [hv'];unfold Vol.read;rw [if_pos (by unfold Vol.has;omega)]
 have HV':=znq (show v'.pg∧v'.now=v.now∧v'.next=v.next∧v'.store=v.store∧(∀ np xp load,zgl q v' np xp sp load=zgl q v np xp sp load)∧y5 v'=.complex .f64 (fl (v.reads+1)) (fl v.writes)∧(∀ m,v'.nk m=v.nk m)∧v'.size=v.size∧v'.mK=v.mK from by subst hv2;exact ⟨h.pq.count _ _,rfl,rfl,rfl,fun _ _ _=>rfl,rfl,fun _=>rfl,rfl,rfl⟩)
 rw [← hv']
 have HSB:=znq (show (zih v.size v.store n).length=v.size∧xM (v.nk n) (zgn n) (zih v.size v.store n) true=v.sec n∧(v.sec n).length=v.size∧(v.nk n).least≤v.size from ⟨zii h.pq.len hn,rfl,h.pq.nV hn,(h.pq.nk n).least⟩)
 have HLS:=znq (show ∀ w',Blk w' sp (v.store.map B) 5→zr w' (some ⟨sp,n*v.size,none⟩) ((zih v.size v.store n).map B) from fun w' hb'=>by
  have e:=(hb'.lies.drop (n*v.size)).take v.size
  simp only [cB,add_eq,bH] at e
  unfold zih
  rw [bN,dz]
  exact e)
 have hadd:=fun (w:World)=>run_complex_sum (P:=Tryz.prog) (w:=w) .add (Or.inl rfl) 71 .f64 _ _ _ _ _ _ (ztl hr.1 hr.2)
 have hc8:=hvw.cells.cell 8 _ rfl
 unfold y5 at hc8
 have H0:=znq h
 have HB:=znq (Chg.of_below (vp:=vp) (sp:=sp) hb)
 have HVC:=znq hvw.cells
 have HVS:=znq hvw.store
 have H1:=znq h1
 have H2:=znq h2
 have H3:=znq h3
 have hp1:=h1.cell 0 _ rfl
 have hn6:n≤1000000:=by omega
 have HN:=znq hn
 have HNE:=znq (h.ne)
 have h3w:=h3.lt
 have n13:b1≠b3:=by rintro rfl;have:=h1.symm.trans h3;simp at this
 have n23:b2≠b3:=by rintro rfl;have:=h2.symm.trans h3;simp at this
 have HZ0:=znq hb.size
 clear hb h hvw h1 h2 h3 hs1 hv' hv2 hf hn
 go_enter Tryz.func66,Tryz.ntmps66
 go_wp2_with (refine HVC.znr.ry (i:=8) (v:=.complex .f64 (fl (v.reads+1)) (fl v.writes)) rfl rfl rfl rfl zrh rfl rfl (by simp [zgl]) ?_)
 intro w2 hb2 ho2
 have HC:=znq (HB.znr.trans (Chg.of_cell (zI.nH ho2)))
 have hz2:w2.heap.size=w.heap.size:=ho2.size
 have H1:=znq (H1.znr.only ho2 (by omega))
 have H2:=znq (H2.znr.only ho2 (by omega))
 have H3:=znq (H3.znr.only ho2 (by omega))
 have HV2:=znq (show y4 104 F w2 q vp sp v' (y5 v') np xp from H0.znr.to HC.znr (by rw [HV'.znr.2.2.2.2.1,HV'.znr.2.2.2.2.2.1];exact hb2) (by rw [HV'.znr.2.2.2.1];exact HVS.znr.only ho2 (fun e=>HNE.znr e.symm)) HV'.znr.1 HV'.znr.2.1 HV'.znr.2.2.1)
 clear hb2 ho2 hadd hc8 hp1 HVC HVS HB
 go_wp2
 have hl1:=fun (x:xR (zI b3) w2.drew)=>(H1.znr.drew.pR x.rel n13).cell 0 _ rfl
 have hl2:=fun (x:xR (zI b3) w2.drew)=>(H2.znr.drew.pR x.rel n23).cell 0 _ rfl
 go_wp2_with fail
 refine Yh (zI b3) [] [(0,true),(1,true),(3,true),(5,true),(2,false),(4,false),(6,false),(7,true),(8,true),(9,true),(10,false),(11,true)] (zI.refl b3) (fun _ _ _ h k=>h.trans k) (by kernel_rfl) (by kernel_rfl) ?_
 rintro w3 rfl
 iterate 4 refine m1K ?_
 have hd2:Below w2.heap.size w2 w2.drew:=(Below.refl _ _).drew
 have HV3:=znq (HV2.znr.below hd2)
 have HC:=znq HC.znr.drew
 have H3:=znq H3.znr.drew
 have HBX:=znq hd2
 clear hd2 hl1 hl2 H1 H2 HV2
 refine xL rfl (by rfl) (fun K hK=>?_)
 go_simp
 refine (zr2 n HV3.znr).mono ?_
 rintro e w4 ⟨cp,rfl,hk,rfl⟩
 have HK:=znq hk.self
 rw [HV'.znr.2.2.2.2.2.2.1] at HK
 go_simp
 refine hK _ _ (fun _=>zI.refl _ _) ?_
 clear hK K hk
 refine xL rfl (by rfl) (fun K hK=>?_)
 go_simp
 refine (zsf n _ hn6).mono ?_
 rintro e w5 ⟨g,rfl,hl,hbel⟩
 have HL:=znq hl
 have HK:=znq (HK.znr.later hbel)
 have HV3:=znq (HV3.znr.below hbel)
 have HC:=znq (HC.znr.later hbel)
 have H3:=znq (H3.znr.below hbel H3.znr.lt)
 have HBX:=znq (HBX.znr.trans (hbel.mono HBX.znr.size))
 go_simp
 refine hK _ _ (fun _=>zI.of_below hbel) ?_
 clear hK K hbel hl
 refine xL rfl (by rfl) (fun K hK=>?_)
 go_simp
 refine (znf cp (v.nk n) (some ⟨g,0,none⟩) 16 16 (zgn n) (some ⟨sp,n*v.size,none⟩) v.size (v.size*v.mK - n*v.size) (zih v.size v.store n) _ HK.znr (zq2 n) (by omega) (by omega) HL.znr HSB.znr.1 HSB.znr.2.2.2 (by omega) (by have:=fits (size:=v.size) HN.znr;omega) (HLS.znr _ (by rw [← HV'.znr.2.2.2.1];exact HV3.znr.store))).mono ?_
 rintro e w6 ⟨val,rfl,hown,hbel⟩
 rw [HSB.znr.2.1] at hown
 obtain ⟨ao6,cap6,rfl,_,_,_⟩:=zw hown
 have HO:=znq (Got.nQ (yi (b:=w.heap.size) hown (by have:=HBX.znr.size;omega)) (by omega))
 have HV3:=znq (HV3.znr.below hbel)
 have HC:=znq (HC.znr.later hbel)
 have H3:=znq (H3.znr.below hbel H3.znr.lt)
 go_simp
 refine hK _ _ (fun _=>zI.of_below hbel) ?_
 clear hK K hbel hown
 iterate 3 refine m1K ?_
 refine xL rfl (by rfl) (fun K hK=>?_)
 refine H3.znr.nO rfl rfl rfl zrl rfl rfl (by simp) (fun w7 hb7 ho7=>hK _ _ (fun _=>zI.nH ho7) ?_)
 clear hK K
 have HV3:=znq (H0.znr.to (HC.znr.other ho7 g3) (HV3.znr.cells.only ho7 (by omega)) (HV3.znr.store.only ho7 (by omega)) HV'.znr.1 HV'.znr.2.1 HV'.znr.2.2.1)
 go_simp
 refine m1K ?_
 refine kN ?_
 go_wp2
 go_ret
 exact ⟨0,rfl,rfl,_,hb7,HO.znr.only ho7 h3w,HV3.znr,HC.znr.other ho7 g3⟩
theorem zr4 {w:World} {F:List Nat} {q vp sp:Nat} {v:Vol} {np:Nat} {xp:Value} (n:Nat) (h:y4 104 F w q vp sp v (y5 v) np xp) (hn:n < v.mK) (hr:v.reads≤1000000∧v.writes≤1000000) :
  Calls Tryz.prog 32 #[.pointer (some ⟨vp,0,none⟩),.int .i64 n] w fun e w'=>∃ val,e=.returned (.tuple #[val,.int .i64 0])∧Got w.heap.size w' val v.size (v.sec n)∧y4 104 F w' q vp sp (v.read n).1 (y5 (v.read n).1) np xp∧Chg vp sp w w':=by
 have HV:=znq h
 have HN:=znq hn
 have HS:=znq (St.start w)
 clear h hn
 have hen:=zr3
 go_enter Tryz.func32,Tryz.ntmps32
 go_wp2_with (refine zh 49 _ [.pointer (some ⟨vp,0,none⟩)] _ rfl rfl rfl rfl ?_)
 intro w1 hb hbel;have HS:=znq (HS.znr.push hb hbel);have g1:=hbel.size;clear hb hbel
 go_wp2_with (refine zh 3 _ [.int .i64 n] _ rfl rfl rfl rfl ?_)
 intro w2 hb hbel;have HS:=znq (HS.znr.push hb hbel);have g2:=hbel.size;clear hb hbel
 go_wp2_with (refine ze 22 [.slice none 0 0] _ rfl rfl zq8 rfl ?_)
 intro w3 hb hbel;have HS:=znq (HS.znr.push hb hbel);clear hb hbel
 have hx1:=(HS.znr.get 2 rfl).cell 0 _ rfl
 have hx2:=(HS.znr.get 1 rfl).cell 0 _ rfl
 have HVX:=znq (HV.znr.below HS.znr.bel)
 have hz3:=HS.znr.size
 generalize hbb:w.heap.size=bb at *
 go_wp2_with fail
 refine (zsg 66 _ _ _ n (fun c w'=>c=0∧∃ val,Blk w' w2.heap.size [val] 22∧Got bb w' val v.size (v.sec n)∧y4 104 F w' q vp sp (v.read n).1 (y5 (v.read n).1) np xp∧Chg vp sp w w') HVX.znr HN.znr hen
  (fun w' hb'=>(ztn bb w1.heap.size w2.heap.size n HV.znr (by rw [hbb];exact HS.znr.bel.trans (hb'.mono HS.znr.size)) HN.znr hr ((HS.znr.later hb').get 2 rfl) ((HS.znr.later hb').get 1 rfl) ((HS.znr.later hb').get 0 rfl) (by omega) (by omega) (by omega)).mono fun e w'' ⟨c,he,hc0,val,h1,h2,h3,h4⟩=>⟨c,he,hc0,val,h1,h2.le (uj hz3 hb'.size),h3,h4⟩)).mono ?_
 rintro e w4 ⟨c,rfl,rfl,val,hb,pU,hvi,hch⟩
 have hx:=hb.cell 0 _ rfl
 have HR:=znq (And.intro pU (And.intro hvi hch))
 clear hb pU hvi hch hx1 hx2 hen
 go_wp2
 go_ret2
 exact ⟨_,rfl,by rw [hbb];exact HR.znr.1,HR.znr.2.1,HR.znr.2.2⟩
theorem ztx {w:World} {F:List Nat} {q vp sp:Nat} {v:Vol} {np:Nat} {xp:Value} (n:Int) (h:y4 104 F w q vp sp v (y5 v) np xp) (hn:¬ v.has n) :
  Calls Tryz.prog 32 #[.pointer (some ⟨vp,0,none⟩),.int .i64 n] w fun e w'=>e=.returned (.tuple #[.slice none 0 0,.int .i64 11])∧Below w.heap.size w w':=by
 have HV:=znq h
 have HN:=znq hn
 have HS:=znq (St.start w)
 clear h hn
 go_enter Tryz.func32,Tryz.ntmps32
 go_wp2_with (refine zh 49 _ [.pointer (some ⟨vp,0,none⟩)] _ rfl rfl rfl rfl ?_)
 intro w1 hb hbel;have HS:=znq (HS.znr.push hb hbel);clear hb hbel
 go_wp2_with (refine zh 3 _ [.int .i64 n] _ rfl rfl rfl rfl ?_)
 intro w2 hb hbel;have HS:=znq (HS.znr.push hb hbel);clear hb hbel
 go_wp2_with (refine ze 22 [.slice none 0 0] _ rfl rfl zq8 rfl ?_)
 intro w3 hb hbel;have HS:=znq (HS.znr.push hb hbel);clear hb hbel
 have hx1:=(HS.znr.get 2 rfl).cell 0 _ rfl
 have hx2:=(HS.znr.get 1 rfl).cell 0 _ rfl
 have hx3:=(HS.znr.get 0 rfl).cell 0 _ rfl
 go_wp2_with fail
 refine (zsy n _ (HV.znr.below HS.znr.bel) HN.znr).mono ?_
 rintro e w4 ⟨rfl,rfl⟩
 go_wp2
 go_ret2
 exact ⟨rfl,HS.znr.bel⟩
theorem zty {w0 w:World} {F:List Nat} {q vp sp:Nat} {v:Vol} {load:Value} {np:Nat} {xp:Value} (b3 n:Nat) (h:y4 104 F w0 q vp sp v load np xp) (hb:Below w0.heap.size w0 w) (hn:n < v.mK) (h3:Blk w b3 [.slice none 0 0] 22) (g3:w0.heap.size≤b3) :
  Calls Tryz.prog 75 #[.slice (some ⟨sp,n*v.size,none⟩) v.size (v.size*v.mK - n*v.size),.pointer (some ⟨b3,0,none⟩)] w fun e w'=>∃ c:Int,e=.returned (.int .i64 c)∧c=0∧∃ val,Blk w' b3 [val] 22∧Got w.heap.size w' val v.size (zih v.size v.store n)∧Below w0.heap.size w0 w':=by
 have hvw:=h.below hb
 have hs0:=h.pq.size
 have HSB:=znq (show (zih v.size v.store n).length=v.size from zii h.pq.len hn)
 have HLS:=znq (show zr w (some ⟨sp,n*v.size,none⟩) ((zih v.size v.store n).map B) from by
  have e:=(hvw.store.lies.drop (n*v.size)).take v.size
  simp only [cB,add_eq,bH] at e
  unfold zih
  rw [bN,dz]
  exact e)
 have HB:=znq hb
 have H3:=znq h3
 have h3w:=h3.lt
 clear h hvw hn h3 hb
 go_enter Tryz.func75,Tryz.ntmps75
 go_wp2_with fail
 refine (YR _ v.size _ _ _ (by rw [yf];exact HSB.znr) (by omega) HLS.znr (zg _)).mono ?_
 rintro e w2 ⟨val,rfl,hown,hbel⟩
 have HO:=znq (Got.nQ hown (by omega))
 have H3:=znq (H3.znr.below hbel h3w)
 have hz:=HB.znr.size
 have HB:=znq (HB.znr.trans (hbel.mono hz))
 clear hown hbel
 simp only [id]
 go_wp2_with (refine H3.znr.ry (i:=0) (v:=val) rfl rfl rfl rfl zrl ?_ ?_ (by simp) ?_)
 ·obtain ⟨g,cap,tl,rfl,_⟩:=HO.znr;rfl
 ·obtain ⟨g,cap,tl,rfl,_⟩:=HO.znr;rfl
 intro w3 hb3 ho3
 have HR:=znq (show Blk w3 b3 [val] 22∧Got w.heap.size w3 val v.size (zih v.size v.store n)∧Below w0.heap.size w0 w3 from ⟨hb3,HO.znr.only ho3 h3w,zk HB.znr ho3 g3⟩)
 clear hb3 ho3
 go_wp2
 go_ret
 exact ⟨0,rfl,rfl,val,HR.znr⟩
theorem zt6 {w:World} {F:List Nat} {q vp sp:Nat} {v:Vol} {load:Value} {np:Nat} {xp:Value} (n:Nat) (h:y4 104 F w q vp sp v load np xp) (hn:n < v.mK) :
  Calls Tryz.prog 42 #[.pointer (some ⟨vp,0,none⟩),.int .i64 n] w fun e w'=>∃ val,e=.returned (.tuple #[val,.int .i64 0])∧Got w.heap.size w' val v.size (zih v.size v.store n)∧Below w.heap.size w w':=by
 have HV:=znq h
 have HN:=znq hn
 have HS:=znq (St.start w)
 clear h hn
 have hen:=zse
 go_enter Tryz.func42,Tryz.ntmps42
 go_wp2_with (refine ze 22 [.slice none 0 0] _ rfl rfl zq8 rfl ?_)
 intro w3 hb hbel;have HS:=znq (HS.znr.push hb hbel);have g3:=hbel.size;clear hb hbel
 go_wp2_with fail
 refine (ztm 75 _ n (fun c w'=>c=0∧∃ val,Blk w' w.heap.size [val] 22∧Got w.heap.size w' val v.size (zih v.size v.store n)∧Below w.heap.size w w') (HV.znr.below HS.znr.bel) HN.znr hen
  (fun w' hb'=>(zty w.heap.size n HV.znr (HS.znr.bel.trans (hb'.mono HS.znr.size)) HN.znr ((HS.znr.later hb').get 0 rfl) (xc _)).mono fun e w'' ⟨c,he,hc0,val,h1,h2,h3⟩=>⟨c,he,hc0,val,h1,h2.le (uj g3 hb'.size),h3⟩)).mono ?_
 rintro e w4 ⟨c,rfl,rfl,val,hb,pU,hbel⟩
 have hx:=hb.cell 0 _ rfl
 have HR:=znq (And.intro pU hbel)
 clear hb pU hbel hen
 go_wp2
 go_ret2
 exact ⟨_,rfl,HR.znr.1,HR.znr.2⟩
end Go.Proofs.YtjaioajjfiaheaaGreatDoor
namespace Go.Proofs.YtjaioajjfiaheaaGreatDoor
open RowKit Mem Ops Cells Oct Trn Aes Ring Ezk Blake Adi Hct Wid Vol Fl ru
attribute [local irreducible] zE zN zO zM yu
theorem zta {w0 w:World} {F:List Nat} {q vp sp:Nat} {v:Vol} {np:Nat} {xp:Value} (b1 b2 b3 n:Nat) (ba:Option Addr) (bn bc:Nat) (bs:List UInt8) (h:y4 104 F w0 q vp sp v (y5 v) np xp) (hb:Below w0.heap.size w0 w) (hn:n < v.mK) (hr:v.reads≤1000000∧v.writes≤1000000)
  (h1:Blk w b1 [.slice ba bn bc] 22) (h2:Blk w b2 [.pointer (some ⟨vp,0,none⟩)] 49) (h3:Blk w b3 [.int .i64 n] 3) (g1:w0.heap.size≤b1) (g2:w0.heap.size≤b2) (g3:w0.heap.size≤b3) (hbn:bs.length=bn) (hl:zij F w0 (fun w'=>zr w' ba (bs.map B))) :
  Calls Tryz.prog 79 #[.slice (some ⟨sp,n*v.size,none⟩) v.size (v.size*v.mK - n*v.size),.pointer (some ⟨b1,0,none⟩),.pointer (some ⟨b2,0,none⟩),.pointer (some ⟨b3,0,none⟩)] w fun e w'=>∃ c:Int,e=.returned (.int .i64 c)∧c=(v.write n bs).2 ∧
   y4 104 F w' q vp sp (v.write n bs).1 (y5 (v.write n bs).1) np xp∧Chg vp sp w0 w':=by
 have hlv:=h.cells.lt
 have hls:=h.store.lt
 have hs0:=h.pq.size
 have hs1:=h.pq.mK
 have hf:=fits (size:=v.size) hn
 have hp1:=h1.cell 0 _ rfl
 have hhas:v.has n:=by unfold Vol.has;omega
 by_cases he:bn=v.size
 rotate_left
 ·have d0:((bn:Int) != (v.size:Int))=true:=by simp;omega
  have HR:=znq (show v.write n bs=(v,4) from by unfold Vol.write;rw [if_pos hhas,if_neg (by omega)])
  have HV:=znq (h.below hb)
  have HC:=znq (Chg.of_below (vp:=vp) (sp:=sp) hb)
  generalize v.size=sz at *
  clear h hb hn hr h1 h2 h3 hbn hl hs0 hs1 hf hhas he
  go_enter Tryz.func79,Tryz.ntmps79
  go_wp2
  go_ret
  exact ⟨4,rfl,by rw [HR.znr],by rw [HR.znr];exact HV.znr,HC.znr⟩
 subst he
 have hvw:=h.below hb
 obtain ⟨v1,hv1⟩:∃ v',v'={ v with writes:=v.writes+1 }:=⟨_,rfl⟩
 obtain ⟨v2,hv2⟩:∃ v',v'={ v with store:=zrc v.store (n*v.size) bs,writes:=v.writes+1 }:=⟨_,rfl⟩
 have hput:(zrc v.store (n*v.size) bs).length=v.store.length:=zqz (by rw [hbn,h.pq.len];exact hf)
 have HV1:=znq (show v1.pg∧v1.now=v.now∧v1.next=v.next∧v1.store=v.store∧(∀ np xp load,zgl q v1 np xp sp load=zgl q v np xp sp load)∧y5 v1=.complex .f64 (fl v.reads) (fl (v.writes+1)) from by subst hv1;exact ⟨h.pq.count _ _,rfl,rfl,rfl,fun _ _ _=>rfl,rfl⟩)
 have HV2:=znq (show v2.pg∧v2.now=v.now∧v2.next=v.next∧v2.store=zrc v.store (n*v.size) bs∧(∀ np xp load,zgl q v2 np xp sp load=zgl q v1 np xp sp load)∧y5 v2=y5 v1∧v2.size=v.size∧v2.mK=v.mK∧(∀ m,v2.nk m=v.nk m) from by
  subst hv1 hv2
  exact ⟨⟨h.pq.size,h.pq.mK,by show (zrc _ _ _).length=_;rw [hput];exact h.pq.len,h.pq.now,h.pq.next⟩,rfl,rfl,rfl,fun _ _ _=>rfl,rfl,rfl,rfl,fun _=>rfl⟩)
 have HR:=znq (show v.write n bs=(v.put n bs,0)∧(v.put n bs).store=zil v.size (v.nk n) (zrc v.store (n*v.size) bs) n false∧(v.put n bs).pg∧(v.put n bs).now=v.now∧(v.put n bs).next=v.next∧(∀ np xp load,zgl q (v.put n bs) np xp sp load=zgl q v1 np xp sp load)∧y5 (v.put n bs)=y5 v1 from by
  subst hv1
  exact ⟨by unfold Vol.write;rw [if_pos hhas,if_pos hbn,Int.toNat_natCast],rfl,h.pq.put hn hbn,rfl,rfl,fun _ _ _=>rfl,rfl⟩)
 have HKL:=znq (show (v.nk n).least≤v.size from (h.pq.nk n).least)
 have HSP:=znq (show splice (v.store.map B) (n*v.size) (bs.map B)=(zrc v.store (n*v.size) bs).map B from by
  unfold zrc splice
  simp only [uI,bN,dz,yf,QA])
 have hadd:=fun (w:World)=>run_complex_sum (P:=Tryz.prog) (w:=w) .add (Or.inl rfl) 71 .f64 _ _ _ _ _ _ (zs9 hr.1 hr.2)
 have hc8:=hvw.cells.cell 8 _ rfl
 unfold y5 at hc8
 have d0:((v.size:Int) != (v.size:Int))=false:=by simp
 have H0:=znq h
 have HB:=znq (Chg.of_below (vp:=vp) (sp:=sp) hb)
 have HVC:=znq hvw.cells
 have HVS:=znq hvw.store
 have H1:=znq h1
 have H2:=znq h2
 have H3:=znq h3
 have hp2:=h2.cell 0 _ rfl
 have HN:=znq hn
 have HNE:=znq h.ne
 have HBN:=znq hbn
 have HLB:=znq hl
 have HFI:=znq (show n*v.size+bs.length≤v.store.length from by rw [hbn,h.pq.len];exact hf)
 have hz0:=hb.size
 clear hb h hvw h1 h2 h3 hs1 hv1 hv2 hf hn hbn hl hput hhas
 go_enter Tryz.func79,Tryz.ntmps79
 go_wp2_with (refine HVC.znr.ry (i:=8) (v:=.complex .f64 (fl v.reads) (fl (v.writes+1))) rfl rfl rfl rfl zrh rfl rfl (by simp [zgl]) ?_)
 intro w2 hb2 ho2
 have HC:=znq (HB.znr.trans (Chg.of_cell (zI.nH ho2)))
 have H1:=znq (H1.znr.only ho2 (by omega))
 have H2:=znq (H2.znr.only ho2 (by omega))
 have H3:=znq (H3.znr.only ho2 (by omega))
 have HX2:=znq (show y4 104 F w2 q vp sp v1 (y5 v1) np xp from H0.znr.to HC.znr (by rw [HV1.znr.2.2.2.2.1,HV1.znr.2.2.2.2.2];exact hb2) (by rw [HV1.znr.2.2.2.1];exact HVS.znr.only ho2 (fun e=>HNE.znr e.symm)) HV1.znr.1 HV1.znr.2.1 HV1.znr.2.2.1)
 have HST:=znq (show Blk w2 sp (v.store.map B) 5 from HVS.znr.only ho2 (fun e=>HNE.znr e.symm))
 have hp1:=H1.znr.cell 0 _ rfl
 clear hb2 ho2 hadd hc8 hp2 HVC HVS HB
 have hl2:=HLB.znr w2 (HC.znr.up H0.znr.inF)
 go_wp2_with (refine HST.znr.za6 (n*v.size) (bs.map B) rfl rfl rfl rfl Tryz.underlying22 zl (fun _=>rfl) hl2 (by rw [yf,HBN.znr];exact (Nat.min_self _).symm) (by rw [yf,yf];exact HFI.znr) (zg _) ?_)
 intro w3 hb3 ho3
 rw [HSP.znr] at hb3
 have HC:=znq (HC.znr.trans (Chg.rA (zI.nH ho3)))
 have H2:=znq (H2.znr.only ho3 (by omega))
 have H3:=znq (H3.znr.only ho3 (by omega))
 have HX3:=znq (show y4 104 F w3 q vp sp v2 (y5 v2) np xp from H0.znr.to HC.znr (by rw [HV2.znr.2.2.2.2.1,HV2.znr.2.2.2.2.2.1];exact HX2.znr.cells.only ho3 HNE.znr) (by rw [HV2.znr.2.2.2.1];exact hb3) HV2.znr.1 HV2.znr.2.1 HV2.znr.2.2.1)
 clear hb3 ho3 hp1 hl2 HX2 HST H1
 go_wp2
 have hl1:=fun (x:xR zW w3.drew)=>(H2.znr.drew.below x.rel H2.znr.drew.lt).cell 0 _ rfl
 have hl2:=fun (x:xR zW w3.drew)=>(H3.znr.drew.below x.rel H3.znr.drew.lt).cell 0 _ rfl
 go_wp2_with fail
 refine Yh zW [5] [(0,true),(1,true),(2,true),(4,true),(3,false),(5,false)] zW.refl (fun _ _ _ h k=>h.trans k) (by kernel_rfl) (by kernel_rfl) ?_
 rintro w4 rfl
 iterate 4 refine m1K ?_
 have HX4:=znq (HX3.znr.below ((Below.refl _ _).drew:Below w3.heap.size w3 w3.drew))
 have HC:=znq HC.znr.drew
 clear hl1 hl2 HX3 H2 H3
 refine xL rfl (by rfl) (fun K hK=>?_)
 go_simp
 refine (zr2 n HX4.znr).mono ?_
 rintro e w5 ⟨cp,rfl,hk,rfl⟩
 have HK:=znq hk.self
 rw [HV2.znr.2.2.2.2.2.2.2.2] at HK
 go_simp
 refine hK _ _ (fun _=>Below.refl _ _) ?_
 clear hK K hk
 refine xL rfl (by rfl) (fun K hK=>?_)
 go_simp
 refine (zrk cp (v.nk n) n false HX4.znr HK.znr (by rw [HV2.znr.2.2.2.2.2.2.1];exact HKL.znr) (by rw [HV2.znr.2.2.2.2.2.2.2.1];exact HN.znr)).mono ?_
 rintro e w6 ⟨⟨z,rfl⟩,hb6,ho6⟩
 rw [HV2.znr.2.2.2.2.2.2.1,HV2.znr.2.2.2.1] at hb6
 have HC:=znq (HC.znr.trans (Chg.rA ho6))
 have HX6:=znq (show y4 104 F w6 q vp sp (v.put n bs) (y5 (v.put n bs)) np xp from H0.znr.to HC.znr (by rw [HR.znr.2.2.2.2.2.1,HR.znr.2.2.2.2.2.2,← HV2.znr.2.2.2.2.1,← HV2.znr.2.2.2.2.2.1];exact HX4.znr.cells.pR ho6 HNE.znr) (by rw [HR.znr.2.1];exact hb6) HR.znr.2.2.1 HR.znr.2.2.2.1 HR.znr.2.2.2.2.1)
 clear hb6 ho6
 go_simp
 refine hK _ _ (fun hno=>absurd hno (by decide)) ?_
 clear hK K
 refine kN ?_
 go_wp2
 go_ret
 exact ⟨0,rfl,by rw [HR.znr.1],by rw [HR.znr.1];exact HX6.znr,HC.znr⟩
theorem zre {w:World} {F:List Nat} {q vp sp:Nat} {v:Vol} {np:Nat} {xp:Value} (n:Int) (ba:Option Addr) (bn bc:Nat) (bs:List UInt8) (h:y4 104 F w q vp sp v (y5 v) np xp) (hr:v.reads≤1000000∧v.writes≤1000000) (hbn:bs.length=bn) (hl:zij F w (fun w'=>zr w' ba (bs.map B))) :
  Calls Tryz.prog 50 #[.pointer (some ⟨vp,0,none⟩),.int .i64 n,.slice ba bn bc] w fun e w'=>e=.returned (.int .i64 (v.write n bs).2)∧y4 104 F w' q vp sp (v.write n bs).1 (y5 (v.write n bs).1) np xp∧Chg vp sp w w':=by
 have HV:=znq h
 have HBN:=znq hbn
 have HLB:=znq hl
 have HS:=znq (St.start w)
 obtain ⟨r,hrr⟩:∃ r,r=v.write n bs:=⟨_,rfl⟩
 have HR:=znq hrr
 rw [← hrr]
 by_cases hn:v.has n
 rotate_left
 ·have HNO:=znq hn
  have HE:=znq (show r=(v,11) from by rw [hrr];unfold Vol.write;rw [if_neg hn])
  clear h hbn hl hn hrr
  go_enter Tryz.func50,Tryz.ntmps50
  go_wp2_with (refine zh 49 _ [.pointer (some ⟨vp,0,none⟩)] _ rfl rfl rfl rfl ?_)
  intro w1 hb hbel;have HS:=znq (HS.znr.push hb hbel);clear hb hbel
  go_wp2_with (refine zh 3 _ [.int .i64 n] _ rfl rfl rfl rfl ?_)
  intro w2 hb hbel;have HS:=znq (HS.znr.push hb hbel);clear hb hbel
  go_wp2_with (refine zh 22 _ [.slice ba bn bc] _ rfl rfl rfl rfl ?_)
  intro w3 hb hbel;have HS:=znq (HS.znr.push hb hbel);clear hb hbel
  have hx1:=(HS.znr.get 2 rfl).cell 0 _ rfl
  have hx2:=(HS.znr.get 1 rfl).cell 0 _ rfl
  go_wp2_with fail
  refine (zsy n _ (HV.znr.below HS.znr.bel) HNO.znr).mono ?_
  rintro e w4 ⟨rfl,rfl⟩
  go_wp2
  go_ret
  rw [HE.znr]
  exact ⟨rfl,HV.znr.below HS.znr.bel,Chg.of_below HS.znr.bel⟩
 obtain ⟨m,rfl⟩:∃ m:Nat,n=(m:Int):=⟨n.toNat,by unfold Vol.has at hn;omega⟩
 have HN:=znq (show m < v.mK from by unfold Vol.has at hn;omega)
 have hen:=zrv
 clear h hbn hl hn hrr
 go_enter Tryz.func50,Tryz.ntmps50
 go_wp2_with (refine zh 49 _ [.pointer (some ⟨vp,0,none⟩)] _ rfl rfl rfl rfl ?_)
 intro w1 hb hbel;have HS:=znq (HS.znr.push hb hbel);have g1:=hbel.size;clear hb hbel
 go_wp2_with (refine zh 3 _ [.int .i64 m] _ rfl rfl rfl rfl ?_)
 intro w2 hb hbel;have HS:=znq (HS.znr.push hb hbel);have g2:=hbel.size;clear hb hbel
 go_wp2_with (refine zh 22 _ [.slice ba bn bc] _ rfl rfl rfl rfl ?_)
 intro w3 hb hbel;have HS:=znq (HS.znr.push hb hbel);clear hb hbel
 have hx1:=(HS.znr.get 2 rfl).cell 0 _ rfl
 have hx2:=(HS.znr.get 1 rfl).cell 0 _ rfl
 have HVX:=znq (HV.znr.below HS.znr.bel)
 generalize hbb:w.heap.size=bb at *
 go_wp2_with fail
 refine (zsg 79 _ _ _ m (fun c w'=>c=(v.write m bs).2∧y4 104 F w' q vp sp (v.write m bs).1 (y5 (v.write m bs).1) np xp∧Chg vp sp w w') HVX.znr HN.znr hen
  (fun w' hb'=>(zta w2.heap.size bb w1.heap.size m ba bn bc bs HV.znr (by rw [hbb];exact HS.znr.bel.trans (hb'.mono HS.znr.size)) HN.znr hr ((HS.znr.later hb').get 0 rfl) ((HS.znr.later hb').get 2 rfl) ((HS.znr.later hb').get 1 rfl) (by omega) (by omega) (by omega) HBN.znr HLB.znr))).mono ?_
 rintro e w4 ⟨c,rfl,rfl,hvi,hch⟩
 rw [← HR.znr] at hvi
 rw [← HR.znr]
 have HZ:=znq (And.intro hvi hch)
 clear hvi hch hx1 hx2 hen
 go_wp2
 go_ret
 exact ⟨rfl,HZ.znr.1,HZ.znr.2⟩
end Go.Proofs.YtjaioajjfiaheaaGreatDoor

/-
  Texts of this claim, one behind the other.
-/
import Derived.Test.YtamdifhibogdiaaGreatDoorX1
import Derived.Test.YtamdifhibogdiaaGreatDoorX16
import Derived.Test.YtamdifhibogdiaaGreatDoorX24
import Derived.Test.YtamdifhibogdiaaGreatDoorX10
import Derived.Test.YtamdifhibogdiaaGreatDoorX21
import Derived.Test.YtamdifhibogdiaaGreatDoorX9
import Derived.Test.YtamdifhibogdiaaGreatDoorX12
import Derived.Test.YtamdifhibogdiaaGreatDoorX17
import Derived.Laws.ComplexArith
import Derived.Lib.Hide
set_option linter.unusedVariables false
set_option linter.unusedSimpArgs false
set_option maxHeartbeats 16000000
set_option maxRecDepth 100000
open List renaming append_assoc→QA,eq_of_mem_replicate→ji,getElem?_append_left→bO,getElem?_append_right→bM,getElem?_drop→dJ,getElem?_take→fK,length_append→q8,length_drop→XQ,length_map→yf,length_take→Ku,map_append→uI,map_drop→dz,map_take→bN,mem_cons→uB,mem_or_eq_of_mem_set→jh,replicate→wh
open Nat renaming add_comm→fI,add_mul→uZ,le_refl→xc,le_trans→uj,lt_of_lt_of_le→bI,mul_le_mul→mg,mul_le_mul_right→uP,one_mul→dO,zero_add→bH
open Option renaming map_some→cB
open UInt64 renaming ofNat→wF
namespace Go.Vol
open Ops Oct Aes Adi Wid
def zgn (n:Nat):List UInt8:=z7 (wF n,0)
theorem zq2 (n:Nat):(zgn n).length=16:=by unfold zgn z7;rw [q8,zK,zK]
def zih (size:Nat) (st:List UInt8) (n:Nat):List UInt8:=(st.drop (n*size)).take size
def zrc (st:List UInt8) (a:Nat) (b:List UInt8):List UInt8:=st.take a++b++st.drop (a+b.length)
theorem zqz {st:List UInt8} {a:Nat} {b:List UInt8} (h:a+b.length≤st.length):(zrc st a b).length=st.length:=by
 unfold zrc
 simp only [q8,Ku,XQ]
 omega
theorem zt4 {st:List UInt8} {a:Nat} {b:List UInt8} (h:a+b.length≤st.length) (i:Nat):(zrc st a b)[i]? = if a≤i∧i < a+b.length then b[i - a]? else st[i]?:=by
 unfold zrc
 have e:(List.take a st).length=a:=by rw [Ku];omega
 by_cases h1:i < a
 ·rw [if_neg (by omega),QA,bO (by omega),fK,if_pos h1]
 ·by_cases h2:i < a+b.length
  ·rw [if_pos (by omega),QA,bM (by omega),bO (by omega),e]
  ·rw [if_neg (by omega),bM (by rw [q8];omega),dJ,q8,e]
   congr 1
   omega
theorem zsk (size:Nat) (st:List UInt8) (n j:Nat):(zih size st n)[j]? = if j < size then st[n*size+j]? else none:=by
 unfold zih
 rw [fK,dJ]
theorem fits {size mK n:Nat} (h:n < mK):n*size+size≤size*mK:=by
 have:=uP size (show n+1≤mK from h)
 rw [uZ,dO] at this
 rw [Nat.mul_comm size]
 exact this
theorem apart {size m n:Nat} (h:m < n):m*size+size≤n*size:=by
 have:=uP size (show m+1≤n from h)
 rw [uZ,dO] at this
 exact this
theorem zii {size mK n:Nat} {st:List UInt8} (hl:st.length=size*mK) (h:n < mK):(zih size st n).length=size:=by
 have:=fits (size:=size) h
 unfold zih
 rw [Ku,XQ]
 omega
theorem zsl {size mK n m:Nat} {st b:List UInt8} (hl:st.length=size*mK) (hb:b.length=size) (hn:n < mK):zih size (zrc st (n*size) b) m=if m=n then b else zih size st m:=by
 have hf:=fits (size:=size) hn
 apply List.ext_getElem?
 intro j
 rw [zsk]
 by_cases hj:j < size
 ·rw [if_pos hj,zt4 (by omega)]
  by_cases e:m=n
  ·subst e
   rw [if_pos (by omega),if_pos rfl]
   congr 1
   omega
  ·rw [if_neg e,zsk,if_pos hj,if_neg]
   rcases Nat.lt_or_gt_of_ne e with h | h
   ·have:=apart (size:=size) h;omega
   ·have:=apart (size:=size) h;omega
 ·rw [if_neg hj]
  by_cases e:m=n
  ·subst e
   rw [if_pos rfl,List.getElem?_eq_none (by omega)]
  ·rw [if_neg e,zsk,if_neg hj]
def zil (size:Nat) (k:ku) (st:List UInt8) (n:Nat) (back:Bool):List UInt8:=zrc st (n*size) (xM k (zgn n) (zih size st n) back)
theorem zqu {size mK n:Nat} {k:ku} {st:List UInt8} {back:Bool} (hl:st.length=size*mK) (hk:k.least≤size) (hn:n < mK):(zil size k st n back).length=st.length:=by
 have hs:=zii hl hn
 refine zqz ?_
 rw [q7 _ _ (by rw [hs];exact hk),hs,hl]
 exact fits hn
theorem zrd {size mK n m:Nat} {k:ku} {st:List UInt8} {back:Bool} (hl:st.length=size*mK) (hk:k.least≤size) (hn:n < mK):zih size (zil size k st n back) m=if m=n then xM k (zgn n) (zih size st n) back else zih size st m:=by
 have hs:=zii hl hn
 exact zsl hl (by rw [q7 _ _ (by rw [hs];exact hk),hs]) hn
structure Vol where
 alg:Int
 size:Nat
 mK:Nat
 now:ku
 next:Option ku
 moved:Nat
 store:List UInt8
 reads:Nat
 writes:Nat
structure zq3 (size:Nat) (k:ku):Prop where
 fit:k.Fit
 least:k.least≤size
structure Vol.pg (v:Vol):Prop where
 size:16≤v.size∧v.size≤4096
 mK:1≤v.mK∧v.mK≤256
 len:v.store.length=v.size*v.mK
 now:zq3 v.size v.now
 next:∀ k,v.next=some k→zq3 v.size k∧v.moved < v.mK
theorem least_le (k:ku):k.least≤16:=by cases k <;> simp [ku.least]
def Vol.nk (v:Vol) (n:Nat):ku:=match v.next with
 | some k=>if n < v.moved then k else v.now
 | none=>v.now
theorem Vol.pg.nk {v:Vol} (h:v.pg) (n:Nat):zq3 v.size (v.nk n):=by
 unfold Vol.nk
 split
 ·next k hk =>
  split
  ·exact (h.next k hk).1
  ·exact h.now
 ·exact h.now
def zri (size:Nat) (k:ku) (st:List UInt8):Nat→List UInt8
 | 0=>st
 | n+1=>zil size k (zri size k st n) n false
theorem zqv {size mK:Nat} {k:ku} {st:List UInt8} (hl:st.length=size*mK) (hk:k.least≤size):∀ n,n≤mK→(zri size k st n).length=st.length
 | 0,_=>rfl
 | n+1,h=>by
  have ih:=zqv hl hk n (by omega)
  show (zil _ _ _ _ _).length=_
  rw [zqu (by rw [ih];exact hl) hk (by omega),ih]
theorem zro {size mK m:Nat} {k:ku} {st:List UInt8} (hl:st.length=size*mK) (hk:k.least≤size):∀ n,n≤mK→zih size (zri size k st n) m=if m < n then xM k (zgn m) (zih size st m) false else zih size st m
 | 0,_=>by simp [zri]
 | n+1,h=>by
  have ih:=zro (m:=m) hl hk n (by omega)
  have ihn:=zro (m:=n) hl hk n (by omega)
  show zih size (zil _ _ _ _ _) m=_
  rw [zrd (by rw [zqv hl hk n (by omega)];exact hl) hk (by omega)]
  by_cases e:m=n
  ·subst e
   rw [if_pos rfl,if_pos (by omega),ihn,if_neg (by omega)]
  ·rw [if_neg e,ih]
   by_cases h2:m < n
   ·rw [if_pos h2,if_pos (by omega)]
   ·rw [if_neg h2,if_neg (by omega)]
def zim (alg:Int) (size mK:Nat) (key:List UInt8):Vol:=⟨alg,size,mK,jy alg key,none,0,zri size (jy alg key) (zf (size*mK)) mK,0,0⟩
theorem zs6 {size mK n:Nat} (hn:n < mK):zih size (zf (size*mK)) n=zf size:=by
 have:=fits (size:=size) hn
 unfold zih zf
 rw [List.drop_replicate,List.take_replicate]
 congr 1
 omega
theorem znp (alg:Int) (key:List UInt8) {size:Nat} (h:16≤size):zq3 size (jy alg key):=⟨we _ _,uj (least_le _) h⟩
theorem zlp {alg:Int} {size mK:Nat} {key:List UInt8} (h1:16≤size∧size≤4096) (h2:1≤mK∧mK≤256):(zim alg size mK key).pg :=
 ⟨h1,h2,by show (zri _ _ _ _).length=_;rw [zqv (zd _) (znp alg key h1.1).least _ (xc _),zd];rfl,znp alg key h1.1,fun k h=>by cases h⟩
def Vol.put (v:Vol) (n:Nat) (b:List UInt8):Vol:={ v with store:=zil v.size (v.nk n) (zrc v.store (n*v.size) b) n false,writes:=v.writes+1 }
theorem Vol.pg.put {v:Vol} (h:v.pg) {n:Nat} {b:List UInt8} (hn:n < v.mK) (hb:b.length=v.size):(v.put n b).pg:=by
 have hp:(zrc v.store (n*v.size) b).length=v.store.length:=zqz (by rw [hb,h.len];exact fits hn)
 exact ⟨h.size,h.mK,by show (zil _ _ _ _ _).length=_;rw [zqu (by rw [hp];exact h.len) (h.nk n).least hn,hp];exact h.len,h.now,h.next⟩
theorem zt5 {v:Vol} (h:v.pg) {n m:Nat} {b:List UInt8} (hn:n < v.mK) (hb:b.length=v.size):zih v.size (v.put n b).store m=if m=n then xM (v.nk n) (zgn n) b false else zih v.size v.store m:=by
 have hp:(zrc v.store (n*v.size) b).length=v.store.length:=zqz (by rw [hb,h.len];exact fits hn)
 show zih v.size (zil _ _ _ _ _) m=_
 rw [zrd (by rw [hp];exact h.len) (h.nk n).least hn,zsl h.len hb hn,if_pos rfl,zsl h.len hb hn]
 split
 ·rfl
 ·rfl
def Vol.step (v:Vol) (k:ku):Vol :=
 let st:=zil v.size k (zil v.size v.now v.store v.moved true) v.moved false
 if v.moved+1=v.mK then { v with now:=k,next:=none,moved:=v.moved+1,store:=st } else { v with next:=some k,moved:=v.moved+1,store:=st }
end Go.Vol
namespace Go.Proofs.YtamdifhibogdiaaGreatDoor
open RowKit Mem Ops Cells Oct Trn Aes Ring Ezk Blake Adi Hct Wid Vol
def Qp (F:List Nat):Nat→Prop:=fun i=>i∉F
def zij (F:List Nat) (w:World) (X:World→Prop):Prop:=∀ w',Up (Qp F) w w'→X w'
theorem zij.self {F:List Nat} {w:World} {X:World→Prop} (h:zij F w X):X w:=h w (Up.refl _ w)
theorem zij.at {F:List Nat} {w w':World} {X:World→Prop} (h:zij F w X) (hu:Up (Qp F) w w'):zij F w' X:=fun w'' hv=>h w'' (hu.trans hv)
theorem zij.below {F:List Nat} {w w':World} {X:World→Prop} (h:zij F w X) (hb:Below w.heap.size w w'):zij F w' X:=h.at (Up.of_below hb)
theorem zij.zaZ {base:Nat} {L F:List Nat} {w w2:World} {X:World→Prop} (h:Std base L w X) (hb:Below w.heap.size w w2) (hF:∀ i∈F,w.heap.size≤i∨i < base∧i∉L):zij F w2 X :=
 fun w' hu=>h (fun i=>i < w.heap.size→Qp F i) w' (fun i hi hl hf=>by
  rcases hF i hf with h1 | ⟨h1,h2⟩
  ·omega
  ·rcases hi with hi | hi
   ·omega
   ·exact h2 hi) ⟨uj hb.size hu.size,fun k hk hl=>(hu.block k (hk hl) (bI hl hb.size)).trans (hb.block k hl)⟩
def zgl (q:Nat) (v:Vol) (np:Nat) (xp:Value) (sp:Nat) (load:Value):List Value :=
 [.pointer (some ⟨q,0,none⟩),.int .i64 v.alg,.int .i64 v.size,.int .i64 v.mK,.pointer (some ⟨np,0,none⟩),xp,.int .i64 v.moved,.slice (some ⟨sp,0,none⟩) (v.size*v.mK) (v.size*v.mK),load]
def zsn (F:List Nat) (w:World) (xp:Value):Option ku→Prop
 | none=>xp=.pointer none
 | some k=>∃ x,xp=.pointer (some ⟨x,0,none⟩)∧zij F w (fun w'=>qu w' x k)
theorem zsn.imp {F F':List Nat} {w w':World} {xp:Value} {o:Option ku} (h:zsn F w xp o) (hk:∀ X,zij F w X→zij F' w' X):zsn F' w' xp o:=by
 cases o with
 | none=>exact h
 | some k=>obtain ⟨x,hx,hk'⟩:=h;exact ⟨x,hx,hk _ hk'⟩
structure y4 (ty:TypeId) (F:List Nat) (w:World) (q vp sp:Nat) (v:Vol) (load:Value) (np:Nat) (xp:Value):Prop where
 pq:v.pg
 ne:vp≠sp
 inF:vp∈F∧sp∈F
 cells:Blk w vp (zgl q v np xp sp load) ty
 store:Blk w sp (v.store.map B) 5
 now:zij F w (fun w'=>qu w' np v.now)
 next:zsn F w xp v.next
theorem y4.below {ty:TypeId} {F:List Nat} {w w':World} {q vp sp:Nat} {v:Vol} {load:Value} {np:Nat} {xp:Value} (h:y4 ty F w q vp sp v load np xp) (hb:Below w.heap.size w w'):y4 ty F w' q vp sp v load np xp :=
 ⟨h.pq,h.ne,h.inF,h.cells.below hb h.cells.lt,h.store.below hb h.store.lt,h.now.below hb,h.next.imp fun _ k=>k.below hb⟩
theorem y4.nk {ty:TypeId} {F:List Nat} {w:World} {q vp sp:Nat} {v:Vol} {load:Value} {np:Nat} {xp:Value} (h:y4 ty F w q vp sp v load np xp) (n:Nat) :
  (v.nk n=v.now∧(v.next=none∨v.moved≤n))∨(∃ k,v.next=some k∧n < v.moved∧v.nk n=k):=by
 unfold Vol.nk
 cases hx:v.next with
 | none=>exact .inl ⟨rfl,.inl rfl⟩
 | some k =>
  by_cases hn:n < v.moved
  ·exact .inr ⟨k,rfl,hn,by simp [hn]⟩
  ·exact .inl ⟨by simp [hn],.inr (by omega)⟩
end Go.Proofs.YtamdifhibogdiaaGreatDoor
namespace Go.Vol
open Ops Oct Aes Adi Wid
end Go.Vol
namespace Go.Vol
open Ops Oct Aes Adi Wid
def Vol.begin' (v:Vol) (k:ku):Vol:={ v with next:=some k,moved:=0 }
def q5 (k:ku):Nat→Vol→Vol
 | 0,v=>v
 | j+1,v=>q5 k j (v.step k)
def Vol.r9 (v:Vol) (k:ku):Vol:=q5 k v.mK (v.begin' k)
end Go.Vol
namespace Go.Vol
open Ops Oct Aes Adi Wid
def Vol.has (v:Vol) (n:Int):Prop:=0≤n∧n < (v.mK:Int)
instance (v:Vol) (n:Int):Decidable (v.has n):=by unfold Vol.has;infer_instance
def Vol.read (v:Vol) (n:Int):Vol×Int:=if v.has n then ({ v with reads:=v.reads+1 },0) else (v,11)
def Vol.write (v:Vol) (n:Int) (b:List UInt8):Vol×Int:=if v.has n then (if b.length=v.size then (v.put n.toNat b,0) else (v,4)) else (v,11)
def Vol.start (v:Vol) (key:List UInt8):Vol×Int:=match v.next with
 | some _=>(v,12)
 | none=>if ko v.alg key.length=0 then (v.begin' (jy v.alg key),0) else (v,(ko v.alg key.length:Nat))
def Vol.all (v:Vol) (key:List UInt8):Vol×Int:=match v.next with
 | some _=>(v,12)
 | none=>if ko v.alg key.length=0 then (v.r9 (jy v.alg key),0) else (v,(ko v.alg key.length:Nat))
theorem Vol.pg.count {v:Vol} (h:v.pg) (r w:Nat):({ v with reads:=r,writes:=w }:Vol).pg:=⟨h.size,h.mK,h.len,h.now,h.next⟩
def Form (v v':Vol):Prop:=v'.alg=v.alg∧v'.size=v.size∧v'.mK=v.mK
theorem Form.trans {u v w:Vol} (h:Form u v) (k:Form v w):Form u w:=⟨k.1.trans h.1,k.2.1.trans h.2.1,k.2.2.trans h.2.2⟩
end Go.Vol
namespace Go.Cells
open RowKit Mem
structure Chg (vp sp:Nat) (w w':World):Prop where
 os:w'.os=w.os
 tape:w'.tape=w.tape
 output:w'.output=w.output
 size:w.heap.size≤w'.heap.size
 block:∀ k,k < w.heap.size→k≠vp→k≠sp→w'.heap[k]? = w.heap[k]?
theorem Chg.refl (vp sp:Nat) (w:World):Chg vp sp w w:=⟨rfl,rfl,rfl,xc _,fun _ _ _ _=>rfl⟩
theorem Chg.trans {vp sp:Nat} {u v w:World} (h:Chg vp sp u v) (k:Chg vp sp v w):Chg vp sp u w :=
 ⟨k.os.trans h.os,k.tape.trans h.tape,k.output.trans h.output,uj h.size k.size,fun i hi h1 h2=>(k.block i (bI hi h.size) h1 h2).trans (h.block i hi h1 h2)⟩
theorem Chg.of_below {vp sp:Nat} {w w':World} (h:Below w.heap.size w w'):Chg vp sp w w':=⟨h.os,h.tape,h.output,h.size,fun k hk _ _=>h.block k hk⟩
theorem Chg.rA {vp sp:Nat} {w w':World} (h:zI sp w w'):Chg vp sp w w':=⟨h.os,h.tape,h.output,h.size,fun k hk _ h2=>h.block k hk h2⟩
theorem Chg.of_cell {vp sp:Nat} {w w':World} (h:zI vp w w'):Chg vp sp w w':=⟨h.os,h.tape,h.output,h.size,fun k hk h1 _=>h.block k hk h1⟩
theorem Chg.drew {vp sp:Nat} {w w':World} (h:Chg vp sp w w'):Chg vp sp w w'.drew:=⟨h.os,h.tape,h.output,h.size,h.block⟩
theorem Chg.bel {B vp sp:Nat} {u w w':World} (hb:Below B u w) (h:Chg vp sp w w') (h0:B≤w.heap.size) (h1:B≤vp) (h2:B≤sp):Below B u w' :=
 ⟨h.os.trans hb.os,h.tape.trans hb.tape,h.output.trans hb.output,uj hb.size h.size,fun k hk=>(h.block k (bI hk h0) (by omega) (by omega)).trans (hb.block k hk)⟩
theorem Blk.chg {vp sp b:Nat} {w w':World} {vs:List Value} {ty:TypeId} (h:Blk w b vs ty) (hc:Chg vp sp w w') (h1:b≠vp) (h2:b≠sp):Blk w' b vs ty:=(hc.block b h.lt h1 h2).trans h
theorem St.chg {vp sp:Nat} {w0 w w':World} {base:Nat} {L:List (Nat×List Value×TypeId)} (h:St w0 base w L) (hc:Chg vp sp w w') (h1:base≤vp) (h2:base≤sp) (hne:∀ e∈L,e.1≠vp∧e.1≠sp):St w0 base w' L :=
 ⟨h.nW,hc.bel h.bel h.size h1 h2,fun e he=>(h.all e he).chg hc (hne e he).1 (hne e he).2⟩
end Go.Cells
namespace Go.Proofs.YtamdifhibogdiaaGreatDoor
open RowKit Mem Ops Cells Oct Trn Aes Ring Ezk Blake Adi Hct Wid Vol Fl
attribute [local irreducible] zE zN zO zM yu
theorem _root_.Go.Cells.Chg.up {F:List Nat} {vp sp:Nat} {w w':World} (h:Chg vp sp w w') (hin:vp∈F∧sp∈F):Up (Qp F) w w':=⟨h.size,fun i hi hl=>h.block i hl (fun e=>hi (e ▸ hin.1)) (fun e=>hi (e ▸ hin.2))⟩
theorem zru (x:Int):Tryz.prog.built 62 [(0,.int .u64 x)]=some #[.int .u64 x,.int .u64 0]:=by kernel_rfl
theorem zsf (n:Nat) (w:World) (hn:n≤1000000) :
  Calls Tryz.prog 100 #[.int .i64 n] w fun e w'=>∃ g,e=.returned (.slice (some ⟨g,0,none⟩) 16 16)∧zr w' (some ⟨g,0,none⟩) ((zgn n).map B)∧Below w.heap.size w w':=by
 obtain ⟨um,hum⟩:∃ um,um=wF n:=⟨_,rfl⟩
 have hcv:IntKind.u64.wrap (n:Int)=(um.toNat:Int):=by rw [hum];exact zbb n
 have HT:=znq (show zgn n=zz um++zz 0∧(zz um++zz 0).length=16 from ⟨by rw [hum];rfl,by rw [q8,zK,zK]⟩)
 have hbu:=zru (um.toNat:Int)
 have HS:=znq (St.start w)
 clear hum
 go_enter Tryz.func100,Tryz.ntmps100
 go_wp2_with fail
 refine (k5 um 0 _).mono ?_
 rintro e w2 ⟨rfl,hbel⟩
 have HS:=znq (HS.znr.later hbel)
 clear hbel hbu hcv
 go_wp2_with (first | (refine ze 59 ((zf 16).map B) _ rfl rfl zj rfl ?_) | (refine (HS.znr.get 0 rfl).mM rfl rfl rfl (cs:=(zz um++zz 0).map B) rfl zc (by rw [yf];exact zd 16) (by rw [yf];exact HT.znr.2) (zg _) ?_))
 intro w3 hb hbel
 have HZ:=znq HS.znr.size
 have HS:=znq (HS.znr.push hb hbel)
 clear hb hbel
 go_wp2_with (refine (HS.znr.get 0 rfl).mM rfl rfl rfl (cs:=(zz um++zz 0).map B) rfl zc (by rw [yf];exact zd 16) (by rw [yf];exact HT.znr.2) (zg _) ?_)
 intro w4 hb ho
 have HB:=znq (zk HS.znr.bel ho HZ.znr)
 have HL:=znq hb.lies
 clear hb ho
 go_wp2
 go_ret
 exact ⟨_,rfl,by rw [HT.znr.1];exact HL.znr,HB.znr⟩
theorem zsq {w:World} {F:List Nat} {q vp sp:Nat} {v:Vol} {load:Value} {np:Nat} {xp:Value} (n:Nat) (h:y4 117 F w q vp sp v load np xp) (hn:n < v.mK) :
  Calls Tryz.prog 101 #[.pointer (some ⟨vp,0,none⟩),.int .i64 n] w fun e w'=>e=.returned (.slice (some ⟨sp,n*v.size,none⟩) v.size (v.size*v.mK - n*v.size))∧Below w.heap.size w w':=by
 have hf:=fits (size:=v.size) hn
 have hs0:=h.pq.size
 have hs1:=h.pq.mK
 have HC:=znq h.cells
 obtain ⟨al,hal⟩:∃ x,x=v.alg:=⟨_,rfl⟩
 obtain ⟨sz,hsz⟩:∃ x,x=v.size:=⟨_,rfl⟩
 obtain ⟨st,hst⟩:∃ x,x=v.size*v.mK:=⟨_,rfl⟩
 obtain ⟨lo,hlo⟩:∃ x,x=n*v.size:=⟨_,rfl⟩
 obtain ⟨hi,hhi⟩:∃ x,x=n*v.size+v.size:=⟨_,rfl⟩
 have h1m:st≤1048576:=by rw [hst];exact mg hs0.2 hs1.2
 have e1:IntKind.i64.wrap ((n:Int)*(sz:Int))=(lo:Int):=by
  have e:((n:Int)*(sz:Int))=(lo:Int):=by rw [hlo,hsz];push_cast;rfl
  rw [e];exact IntWalk.i64_in _ (by omega)
 have e2:IntKind.i64.wrap ((n:Int)+1)=((n+1:Nat):Int):=by rw [show (n:Int)+1=((n+1:Nat):Int) by omega];exact IntWalk.i64_in _ (by omega)
 have e3:IntKind.i64.wrap (((n+1:Nat):Int)*(sz:Int))=(hi:Int):=by
  have e:(((n+1:Nat):Int)*(sz:Int))=(hi:Int):=by rw [hhi,hsz,← Nat.succ_mul];push_cast;rfl
  rw [e];exact IntWalk.i64_in _ (by omega)
 have hca:yy (some ⟨sp,0,none⟩) st lo=some ⟨sp,lo,none⟩:=by
  unfold yy
  rw [if_neg (by omega)]
  simp only [cB,add_eq,bH]
 have hcut:∀ w',(Instr.slice 22 (.slice (some ⟨sp,0,none⟩) st st) (some (.int .i64 (lo:Int))) (some (.int .i64 (hi:Int))) none).run Tryz.prog w'=.ok (.slice (some ⟨sp,lo,none⟩) sz (st - lo)) w':=fun w'=>by
  have h:=zlu (P:=Tryz.prog) w' 22 5 Tryz.underlying22 (fun w=>by kernel_rfl) (some ⟨sp,0,none⟩) st st lo hi (lo:Int) (hi:Int) rfl rfl (by omega) (by omega)
  rwa [hca,show hi - lo=sz by omega] at h
 clear hca
 rw [← hlo,← hst,← hsz]
 have HE:=znq (show zgl q v np xp sp load=[.pointer (some ⟨q,0,none⟩),.int .i64 al,.int .i64 sz,.int .i64 v.mK,.pointer (some ⟨np,0,none⟩),xp,.int .i64 v.moved,.slice (some ⟨sp,0,none⟩) st st,load] from by unfold zgl;rw [hal,hsz,hst])
 have hc2:=fun (x:zG w.drew)=>(HC.znr.drew.below x.later HC.znr.drew.lt).cell 2 (.int .i64 sz) (by rw [HE.znr];rfl)
 have hc7:=fun (x:zG w.drew)=>(HC.znr.drew.below x.later HC.znr.drew.lt).cell 7 (.slice (some ⟨sp,0,none⟩) st st) (by rw [HE.znr];rfl)
 generalize ((n+1:Nat):Int)=n1 at *
 clear hal hsz hst hlo hhi hf hs0 hs1 hn h1m
 go_enter Tryz.func101,Tryz.ntmps101
 go_wp2_with fail
 refine zn [0,1,2,3,4,5,6,7,8,9,10,11,12,13,14,15,16,17,18,19,20] (by kernel_rfl) (by kernel_rfl) ?_
 rintro w2 rfl
 refine mqR ?_
 refine zo ?_
 go_wp2
 go_ret
 exact ⟨rfl,(Below.refl _ _).drew⟩
theorem zr2 {w:World} {F:List Nat} {q vp sp:Nat} {v:Vol} {load:Value} {np:Nat} {xp:Value} (n:Nat) (h:y4 117 F w q vp sp v load np xp) :
  Calls Tryz.prog 62 #[.pointer (some ⟨vp,0,none⟩),.int .i64 n] w fun e w'=>∃ cp,e=.returned (.pointer (some ⟨cp,0,none⟩))∧zij F w (fun w''=>qu w'' cp (v.nk n))∧w=w':=by
 have hc4:=h.cells.cell 4 (.pointer (some ⟨np,0,none⟩)) rfl
 have hc5:=h.cells.cell 5 xp rfl
 have hc6:=h.cells.cell 6 (.int .i64 v.moved) rfl
 rcases h.nk n with ⟨e,hx⟩ | ⟨k,hk,hn,e⟩
 ·have HR:=znq (show zij F w (fun w''=>qu w'' np (v.nk n)) from by rw [e];exact h.now)
  generalize v.moved=mv at *
  have hd:xp=.pointer none∨∃ x,xp=.pointer (some ⟨x,0,none⟩)∧decide (n < mv)=false:=by
   have hh:=h.next
   cases hxx:v.next with
   | none=>rw [hxx] at hh;exact .inl hh
   | some k =>
    rw [hxx] at hh
    obtain ⟨x,hx',_⟩:=hh
    refine .inr ⟨x,hx',?_⟩
    rcases hx with hx | hx
    ·rw [hxx] at hx;cases hx
    ·simp;omega
  clear h e hx
  rcases hd with rfl | ⟨x,rfl,hd⟩
  ·go_enter Tryz.func62,Tryz.ntmps62
   go_wp2
   go_ret
   exact ⟨_,rfl,HR.znr,rfl⟩
  ·go_enter Tryz.func62,Tryz.ntmps62
   go_wp2
   go_ret
   exact ⟨_,rfl,HR.znr,rfl⟩
 ·have hh:=h.next
  rw [hk] at hh
  obtain ⟨x,rfl,hkk⟩:=hh
  have HR:=znq (show zij F w (fun w''=>qu w'' x (v.nk n)) from by rw [e];exact hkk)
  generalize v.moved=mv at *
  have hd:decide (n < mv)=true:=by simp;omega
  clear h hk hn e hkk
  go_enter Tryz.func62,Tryz.ntmps62
  go_wp2
  go_ret
  exact ⟨_,rfl,HR.znr,rfl⟩
theorem zrk {w:World} {F:List Nat} {q vp sp:Nat} {v:Vol} {load:Value} {np:Nat} {xp:Value} (cp:Nat) (k:ku) (n:Nat) (back:Bool) (h:y4 117 F w q vp sp v load np xp) (hk:qu w cp k) (hle:k.least≤v.size) (hn:n < v.mK) :
  Calls Tryz.prog 59 #[.pointer (some ⟨vp,0,none⟩),.pointer (some ⟨cp,0,none⟩),.int .i64 n,.bool back] w fun e w'=>(∃ z,e=.returned z)∧Blk w' sp ((zil v.size k v.store n back).map B) 5∧zI sp w w':=by
 have hs0:=h.pq.size
 have hs1:=h.pq.mK
 have HH:=znq h
 have HK:=znq hk
 have HN:=znq hn
 have HLE:=znq hle
 have hn6:n≤1000000:=by omega
 clear h hk hle hs1 hn
 go_enter Tryz.func59,Tryz.ntmps59
 go_wp2_with fail
 refine (zsf n _ hn6).mono ?_
 rintro e w2 ⟨g,rfl,hl,hbel⟩
 have HL:=znq hl
 have HH2:=znq (HH.znr.below hbel)
 have HB:=znq hbel
 clear hl hbel
 go_wp2_with fail
 refine (zsq n HH2.znr HN.znr).mono ?_
 rintro e w3 ⟨rfl,hbel⟩
 have HL:=znq (HL.znr.below hbel)
 have HH3:=znq (HH2.znr.below hbel)
 have hz:=HB.znr.size
 have HB:=znq (HB.znr.trans (hbel.mono hz))
 clear hbel HH2
 go_wp2_with fail
 refine (ztk cp k (some ⟨g,0,none⟩) 16 16 (zgn n) sp (n*v.size) v.size (v.size*v.mK - n*v.size) (v.store.map B) (zih v.size v.store n) back _ (HK.znr.later HB.znr) (zq2 n) (by omega) (by omega) HL.znr (zii HH.znr.pq.len HN.znr) HLE.znr (by omega) (by have:=fits (size:=v.size) HN.znr;omega) HH3.znr.store (by unfold zih;rw [bN,dz]) (by rw [yf,HH.znr.pq.len];exact fits HN.znr)).mono ?_
 rintro e w4 ⟨rfl,hb,ho⟩
 have HR:=znq hb
 have HO:=znq ((zI.of_below HB.znr).trans ho)
 clear hb ho
 go_wp2
 go_end0
 refine ⟨⟨_,rfl⟩,?_,HO.znr⟩
 have hsp:splice (v.store.map B) (n*v.size) ((xM k (zgn n) (zih v.size v.store n) back).map B)=(zil v.size k v.store n back).map B:=by
  unfold zil zrc splice
  simp only [uI,bN,dz,yf,QA]
 rw [← hsp]
 exact HR.znr
end Go.Proofs.YtamdifhibogdiaaGreatDoor
namespace Go.Proofs.YtamdifhibogdiaaGreatDoor
open RowKit Mem Ops Cells Oct Trn Aes Ring Ezk Blake Adi Hct Wid Vol Fl ru
attribute [local irreducible] zE zN zO zM yu
instance (b:Nat) (w:World):Nonempty (xR (zI b) w):=⟨⟨w,zI.refl b w⟩⟩
def y5 (v:Vol):Value:=.complex .f64 (fl v.reads) (fl v.writes)
theorem Qq:fl 1=4607182418800017408:=by decide +kernel
theorem zs9 {a b:Nat} (ha:a≤1000000) (hb:b≤1000000):cSumBits .add .f64 (fl a) (fl b) 0 4607182418800017408=some (fl a,fl (b+1)):=by
 have h1:=zsi a 0 (by omega) (by omega) (by omega)
 have h2:=zsi b 1 (by omega) (by omega) (by omega)
 rw [Qc] at h1
 rw [Qq] at h2
 simp [cSumBits,h1,h2]
theorem y4.to {ty:TypeId} {w w':World} {F:List Nat} {q vp sp:Nat} {v v':Vol} {load load':Value} {np:Nat} {xp:Value} (h:y4 ty F w q vp sp v load np xp) (hc:Chg vp sp w w') (hb:Blk w' vp (zgl q v' np xp sp load') ty) (hs:Blk w' sp (v'.store.map B) 5) (hv:v'.pg) (hn:v'.now=v.now) (hx:v'.next=v.next):y4 ty F w' q vp sp v' load' np xp :=
 ⟨hv,h.ne,h.inF,hb,hs,by rw [hn];exact h.now.at (hc.up h.inF),by rw [hx];exact h.next.imp fun _ k=>k.at (hc.up h.inF)⟩
def Got (base:Nat) (w:World) (v:Value) (n:Nat) (xs:List UInt8):Prop:=∃ g cap tl,v=.slice (some ⟨g,0,none⟩) n cap∧n≤cap∧base≤g∧Blk w g (xs.map B++tl) 5
theorem Got.nQ {base n:Nat} {w:World} {v:Value} {xs:List UInt8} (h:w.ownsRow base 5 1 v n (xs.map B)) (hn:0 < n):Got base w v n xs:=by
 obtain ⟨g,cap,tl,rfl,hb,hg,hc⟩:=YK h hn
 exact ⟨g,cap,tl,rfl,hc,hg,hb⟩
theorem Got.up {base n:Nat} {w w':World} {v:Value} {xs:List UInt8} (h:Got base w v n xs) (hu:Up (fun i=>base≤i) w w'):Got base w' v n xs:=by
 obtain ⟨g,cap,tl,e,h1,h2,h3⟩:=h
 exact ⟨g,cap,tl,e,h1,h2,h3.up hu h2⟩
theorem Got.only {base n b:Nat} {w w':World} {v:Value} {xs:List UInt8} (h:Got base w v n xs) (ho:Only b w w') (h1:b < base):Got base w' v n xs:=h.up (Up.nH ho (by omega))
theorem Got.le {base b n:Nat} {w:World} {v:Value} {xs:List UInt8} (h:Got base w v n xs) (hb:b≤base):Got b w v n xs:=by
 obtain ⟨g,cap,tl,e,h1,h2,h3⟩:=h
 exact ⟨g,cap,tl,e,h1,uj hb h2,h3⟩
theorem _root_.Go.Cells.Chg.later {vp sp:Nat} {u v w:World} (h:Chg vp sp u v) (hb:Below v.heap.size v w):Chg vp sp u w:=h.trans (Chg.of_below hb)
theorem zse (args:Array Value) (w:World):(callFunc 63 args).run Tryz.prog w=.ok (.enter 63 args) w:=WH Tryz.func63 (by kernel_rfl) (by kernel_rfl) args w
theorem zrv (args:Array Value) (w:World):(callFunc 61 args).run Tryz.prog w=.ok (.enter 61 args) w:=WH Tryz.func61 (by kernel_rfl) (by kernel_rfl) args w
theorem zq8:(Tryz.prog.info? 22).map (·.zero)=some (some (.slice none 0 0)):=by kernel_rfl
theorem zrl:(Tryz.prog.info? 22).map (·.size)=some 1:=by kernel_rfl
theorem zrh:(Tryz.prog.info? 87).map (·.size)=some 1:=by kernel_rfl
theorem zsy {w:World} {F:List Nat} {q vp sp:Nat} {v:Vol} {load:Value} {np:Nat} {xp:Value} (n:Int) (do':Value) (h:y4 117 F w q vp sp v load np xp) (hn:¬ v.has n) :
  Calls Tryz.prog 60 #[.pointer (some ⟨vp,0,none⟩),.int .i64 n,do'] w fun e w'=>e=.returned (.int .i64 11)∧w=w':=by
 have hc3:=h.cells.cell 3 (.int .i64 v.mK) rfl
 unfold Vol.has at hn
 generalize v.mK=ss at *
 by_cases h0:n < 0
 ·have d0:decide (n < 0)=true:=by simp;omega
  clear h h0 hn
  go_enter Tryz.func60,Tryz.ntmps60
  go_wp2
  go_ret
  exact ⟨rfl,rfl⟩
 ·have d0:decide (n < 0)=false:=by simp;omega
  have d1:decide (n≥(ss:Int))=true:=by simp;omega
  have d2:decide ((ss:Int)≤n)=true:=by simp;omega
  clear h h0 hn
  go_enter Tryz.func60,Tryz.ntmps60
  go_wp2
  go_ret
  exact ⟨rfl,rfl⟩
theorem zsg {w:World} {F:List Nat} {q vp sp:Nat} {v:Vol} {load:Value} {np:Nat} {xp:Value} (fid:Nat) (c1 c2 c3:Value) (n:Nat) (R:Int→World→Prop) (h:y4 117 F w q vp sp v load np xp) (hn:n < v.mK) (hF:∀ args w,(callFunc fid args).run Tryz.prog w=.ok (.enter fid args) w)
  (hd:∀ w',Below w.heap.size w w'→Calls Tryz.prog fid #[.slice (some ⟨sp,n*v.size,none⟩) v.size (v.size*v.mK - n*v.size),c1,c2,c3] w' fun e w''=>∃ c,e=.returned (.int .i64 c)∧R c w'') :
  Calls Tryz.prog 60 #[.pointer (some ⟨vp,0,none⟩),.int .i64 n,.func (.func fid) #[] #[c1,c2,c3]] w fun e w'=>∃ c,e=.returned (.int .i64 c)∧R c w':=by
 have hc3:=h.cells.cell 3 (.int .i64 v.mK) rfl
 have HO:=znq (zsq n h hn)
 have HD:=znq hd
 generalize v.size=sz at *
 generalize v.mK=ss at *
 have d1:decide ((n:Int)≥(ss:Int))=false:=by simp;omega
 have d2:decide (ss≤n)=false:=by simp;omega
 clear h hd hn
 go_enter Tryz.func60,Tryz.ntmps60
 go_wp2_with fail
 refine HO.znr.mono ?_
 rintro e w2 ⟨rfl,hbel⟩
 have HB:=znq hbel
 clear hbel hc3 d1 d2
 go_wp2_with fail
 refine (HD.znr _ HB.znr).mono ?_
 rintro e w3 ⟨c,rfl,hr⟩
 have HR:=znq hr
 clear hr
 go_wp2
 go_ret
 exact ⟨_,rfl,HR.znr⟩
theorem ztm {w:World} {F:List Nat} {q vp sp:Nat} {v:Vol} {load:Value} {np:Nat} {xp:Value} (fid:Nat) (c1:Value) (n:Nat) (R:Int→World→Prop) (h:y4 117 F w q vp sp v load np xp) (hn:n < v.mK) (hF:∀ args w,(callFunc fid args).run Tryz.prog w=.ok (.enter fid args) w)
  (hd:∀ w',Below w.heap.size w w'→Calls Tryz.prog fid #[.slice (some ⟨sp,n*v.size,none⟩) v.size (v.size*v.mK - n*v.size),c1] w' fun e w''=>∃ c,e=.returned (.int .i64 c)∧R c w'') :
  Calls Tryz.prog 60 #[.pointer (some ⟨vp,0,none⟩),.int .i64 n,.func (.func fid) #[] #[c1]] w fun e w'=>∃ c,e=.returned (.int .i64 c)∧R c w':=by
 have hc3:=h.cells.cell 3 (.int .i64 v.mK) rfl
 have HO:=znq (zsq n h hn)
 have HD:=znq hd
 generalize v.size=sz at *
 generalize v.mK=ss at *
 have d1:decide ((n:Int)≥(ss:Int))=false:=by simp;omega
 have d2:decide (ss≤n)=false:=by simp;omega
 clear h hd hn
 go_enter Tryz.func60,Tryz.ntmps60
 go_wp2_with fail
 refine HO.znr.mono ?_
 rintro e w2 ⟨rfl,hbel⟩
 have HB:=znq hbel
 clear hbel hc3 d1 d2
 go_wp2_with fail
 refine (HD.znr _ HB.znr).mono ?_
 rintro e w3 ⟨c,rfl,hr⟩
 have HR:=znq hr
 clear hr
 go_wp2
 go_ret
 exact ⟨_,rfl,HR.znr⟩
theorem zty {w0 w:World} {F:List Nat} {q vp sp:Nat} {v:Vol} {load:Value} {np:Nat} {xp:Value} (b3 n:Nat) (h:y4 117 F w0 q vp sp v load np xp) (hb:Below w0.heap.size w0 w) (hn:n < v.mK) (h3:Blk w b3 [.slice none 0 0] 22) (g3:w0.heap.size≤b3) :
  Calls Tryz.prog 63 #[.slice (some ⟨sp,n*v.size,none⟩) v.size (v.size*v.mK - n*v.size),.pointer (some ⟨b3,0,none⟩)] w fun e w'=>∃ c:Int,e=.returned (.int .i64 c)∧c=0∧∃ val,Blk w' b3 [val] 22∧Got w.heap.size w' val v.size (zih v.size v.store n)∧Below w0.heap.size w0 w':=by
 have hvw:=h.below hb
 have hs0:=h.pq.size
 have HSB:=znq (show (zih v.size v.store n).length=v.size from zii h.pq.len hn)
 have HLS:=znq (show zr w (some ⟨sp,n*v.size,none⟩) ((zih v.size v.store n).map B) from by
  have e:=(hvw.store.lies.drop (n*v.size)).take v.size
  simp only [cB,add_eq,bH] at e
  unfold zih
  rw [bN,dz]
  exact e)
 have HB:=znq hb
 have H3:=znq h3
 have h3w:=h3.lt
 clear h hvw hn h3 hb
 go_enter Tryz.func63,Tryz.ntmps63
 go_wp2_with fail
 refine (YR _ v.size _ _ _ (by rw [yf];exact HSB.znr) (by omega) HLS.znr (zg _)).mono ?_
 rintro e w2 ⟨val,rfl,hown,hbel⟩
 have HO:=znq (Got.nQ hown (by omega))
 have H3:=znq (H3.znr.below hbel h3w)
 have hz:=HB.znr.size
 have HB:=znq (HB.znr.trans (hbel.mono hz))
 clear hown hbel
 simp only [id]
 go_wp2_with (refine H3.znr.ry (i:=0) (v:=val) rfl rfl rfl rfl zrl ?_ ?_ (by simp) ?_)
 ·obtain ⟨g,cap,tl,rfl,_⟩:=HO.znr;rfl
 ·obtain ⟨g,cap,tl,rfl,_⟩:=HO.znr;rfl
 intro w3 hb3 ho3
 have HR:=znq (show Blk w3 b3 [val] 22∧Got w.heap.size w3 val v.size (zih v.size v.store n)∧Below w0.heap.size w0 w3 from ⟨hb3,HO.znr.only ho3 h3w,zk HB.znr ho3 g3⟩)
 clear hb3 ho3
 go_wp2
 go_ret
 exact ⟨0,rfl,rfl,val,HR.znr⟩
theorem zt6 {w:World} {F:List Nat} {q vp sp:Nat} {v:Vol} {load:Value} {np:Nat} {xp:Value} (n:Nat) (h:y4 117 F w q vp sp v load np xp) (hn:n < v.mK) :
  Calls Tryz.prog 23 #[.pointer (some ⟨vp,0,none⟩),.int .i64 n] w fun e w'=>∃ val,e=.returned (.tuple #[val,.int .i64 0])∧Got w.heap.size w' val v.size (zih v.size v.store n)∧Below w.heap.size w w':=by
 have HV:=znq h
 have HN:=znq hn
 have HS:=znq (St.start w)
 clear h hn
 have hen:=zse
 go_enter Tryz.func23,Tryz.ntmps23
 go_wp2_with (refine ze 22 [.slice none 0 0] _ rfl rfl zq8 rfl ?_)
 intro w3 hb hbel;have HS:=znq (HS.znr.push hb hbel);have g3:=hbel.size;clear hb hbel
 go_wp2_with fail
 refine (ztm 63 _ n (fun c w'=>c=0∧∃ val,Blk w' w.heap.size [val] 22∧Got w.heap.size w' val v.size (zih v.size v.store n)∧Below w.heap.size w w') (HV.znr.below HS.znr.bel) HN.znr hen
  (fun w' hb'=>(zty w.heap.size n HV.znr (HS.znr.bel.trans (hb'.mono HS.znr.size)) HN.znr ((HS.znr.later hb').get 0 rfl) (xc _)).mono fun e w'' ⟨c,he,hc0,val,h1,h2,h3⟩=>⟨c,he,hc0,val,h1,h2.le (uj g3 hb'.size),h3⟩)).mono ?_
 rintro e w4 ⟨c,rfl,rfl,val,hb,pU,hbel⟩
 have hx:=hb.cell 0 _ rfl
 have HR:=znq (And.intro pU hbel)
 clear hb pU hbel hen
 go_wp2
 go_ret2
 exact ⟨_,rfl,HR.znr.1,HR.znr.2⟩
end Go.Proofs.YtamdifhibogdiaaGreatDoor
namespace Go.Proofs.YtamdifhibogdiaaGreatDoor
open RowKit Mem Ops Cells Oct Trn Aes Ring Ezk Blake Adi Hct Wid Vol Fl ru
attribute [local irreducible] zE zN zO zM yu
theorem zta {w0 w:World} {F:List Nat} {q vp sp:Nat} {v:Vol} {np:Nat} {xp:Value} (b1 b2 b3 n:Nat) (ba:Option Addr) (bn bc:Nat) (bs:List UInt8) (h:y4 117 F w0 q vp sp v (y5 v) np xp) (hb:Below w0.heap.size w0 w) (hn:n < v.mK) (hr:v.reads≤1000000∧v.writes≤1000000)
  (h1:Blk w b1 [.slice ba bn bc] 22) (h2:Blk w b2 [.pointer (some ⟨vp,0,none⟩)] 39) (h3:Blk w b3 [.int .i64 n] 3) (g1:w0.heap.size≤b1) (g2:w0.heap.size≤b2) (g3:w0.heap.size≤b3) (hbn:bs.length=bn) (hl:zij F w0 (fun w'=>zr w' ba (bs.map B))) :
  Calls Tryz.prog 61 #[.slice (some ⟨sp,n*v.size,none⟩) v.size (v.size*v.mK - n*v.size),.pointer (some ⟨b1,0,none⟩),.pointer (some ⟨b2,0,none⟩),.pointer (some ⟨b3,0,none⟩)] w fun e w'=>∃ c:Int,e=.returned (.int .i64 c)∧c=(v.write n bs).2 ∧
   y4 117 F w' q vp sp (v.write n bs).1 (y5 (v.write n bs).1) np xp∧Chg vp sp w0 w':=by
 have hlv:=h.cells.lt
 have hls:=h.store.lt
 have hs0:=h.pq.size
 have hs1:=h.pq.mK
 have hf:=fits (size:=v.size) hn
 have hp1:=h1.cell 0 _ rfl
 have hhas:v.has n:=by unfold Vol.has;omega
 by_cases he:bn=v.size
 rotate_left
 ·have d0:((bn:Int) != (v.size:Int))=true:=by simp;omega
  have HR:=znq (show v.write n bs=(v,4) from by unfold Vol.write;rw [if_pos hhas,if_neg (by omega)])
  have HV:=znq (h.below hb)
  have HC:=znq (Chg.of_below (vp:=vp) (sp:=sp) hb)
  generalize v.size=sz at *
  clear h hb hn hr h1 h2 h3 hbn hl hs0 hs1 hf hhas he
  go_enter Tryz.func61,Tryz.ntmps61
  go_wp2
  go_ret
  exact ⟨4,rfl,by rw [HR.znr],by rw [HR.znr];exact HV.znr,HC.znr⟩
 subst he
 have hvw:=h.below hb
 obtain ⟨v1,hv1⟩:∃ v',v'={ v with writes:=v.writes+1 }:=⟨_,rfl⟩
 obtain ⟨v2,hv2⟩:∃ v',v'={ v with store:=zrc v.store (n*v.size) bs,writes:=v.writes+1 }:=⟨_,rfl⟩
 have hput:(zrc v.store (n*v.size) bs).length=v.store.length:=zqz (by rw [hbn,h.pq.len];exact hf)
 have HV1:=znq (show v1.pg∧v1.now=v.now∧v1.next=v.next∧v1.store=v.store∧(∀ np xp load,zgl q v1 np xp sp load=zgl q v np xp sp load)∧y5 v1=.complex .f64 (fl v.reads) (fl (v.writes+1)) from by subst hv1;exact ⟨h.pq.count _ _,rfl,rfl,rfl,fun _ _ _=>rfl,rfl⟩)
 have HV2:=znq (show v2.pg∧v2.now=v.now∧v2.next=v.next∧v2.store=zrc v.store (n*v.size) bs∧(∀ np xp load,zgl q v2 np xp sp load=zgl q v1 np xp sp load)∧y5 v2=y5 v1∧v2.size=v.size∧v2.mK=v.mK∧(∀ m,v2.nk m=v.nk m) from by
  subst hv1 hv2
  exact ⟨⟨h.pq.size,h.pq.mK,by show (zrc _ _ _).length=_;rw [hput];exact h.pq.len,h.pq.now,h.pq.next⟩,rfl,rfl,rfl,fun _ _ _=>rfl,rfl,rfl,rfl,fun _=>rfl⟩)
 have HR:=znq (show v.write n bs=(v.put n bs,0)∧(v.put n bs).store=zil v.size (v.nk n) (zrc v.store (n*v.size) bs) n false∧(v.put n bs).pg∧(v.put n bs).now=v.now∧(v.put n bs).next=v.next∧(∀ np xp load,zgl q (v.put n bs) np xp sp load=zgl q v1 np xp sp load)∧y5 (v.put n bs)=y5 v1 from by
  subst hv1
  exact ⟨by unfold Vol.write;rw [if_pos hhas,if_pos hbn,Int.toNat_natCast],rfl,h.pq.put hn hbn,rfl,rfl,fun _ _ _=>rfl,rfl⟩)
 have HKL:=znq (show (v.nk n).least≤v.size from (h.pq.nk n).least)
 have HSP:=znq (show splice (v.store.map B) (n*v.size) (bs.map B)=(zrc v.store (n*v.size) bs).map B from by
  unfold zrc splice
  simp only [uI,bN,dz,yf,QA])
 have hadd:=fun (w:World)=>run_complex_sum (P:=Tryz.prog) (w:=w) .add (Or.inl rfl) 87 .f64 _ _ _ _ _ _ (zs9 hr.1 hr.2)
 have hc8:=hvw.cells.cell 8 _ rfl
 unfold y5 at hc8
 have d0:((v.size:Int) != (v.size:Int))=false:=by simp
 have H0:=znq h
 have HB:=znq (Chg.of_below (vp:=vp) (sp:=sp) hb)
 have HVC:=znq hvw.cells
 have HVS:=znq hvw.store
 have H1:=znq h1
 have H2:=znq h2
 have H3:=znq h3
 have hp2:=h2.cell 0 _ rfl
 have HN:=znq hn
 have HNE:=znq h.ne
 have HBN:=znq hbn
 have HLB:=znq hl
 have HFI:=znq (show n*v.size+bs.length≤v.store.length from by rw [hbn,h.pq.len];exact hf)
 have hz0:=hb.size
 clear hb h hvw h1 h2 h3 hs1 hv1 hv2 hf hn hbn hl hput hhas
 go_enter Tryz.func61,Tryz.ntmps61
 go_wp2_with (refine HVC.znr.ry (i:=8) (v:=.complex .f64 (fl v.reads) (fl (v.writes+1))) rfl rfl rfl rfl zrh rfl rfl (by simp [zgl]) ?_)
 intro w2 hb2 ho2
 have HC:=znq (HB.znr.trans (Chg.of_cell (zI.nH ho2)))
 have H1:=znq (H1.znr.only ho2 (by omega))
 have H2:=znq (H2.znr.only ho2 (by omega))
 have H3:=znq (H3.znr.only ho2 (by omega))
 have HX2:=znq (show y4 117 F w2 q vp sp v1 (y5 v1) np xp from H0.znr.to HC.znr (by rw [HV1.znr.2.2.2.2.1,HV1.znr.2.2.2.2.2];exact hb2) (by rw [HV1.znr.2.2.2.1];exact HVS.znr.only ho2 (fun e=>HNE.znr e.symm)) HV1.znr.1 HV1.znr.2.1 HV1.znr.2.2.1)
 have HST:=znq (show Blk w2 sp (v.store.map B) 5 from HVS.znr.only ho2 (fun e=>HNE.znr e.symm))
 have hp1:=H1.znr.cell 0 _ rfl
 clear hb2 ho2 hadd hc8 hp2 HVC HVS HB
 have hl2:=HLB.znr w2 (HC.znr.up H0.znr.inF)
 go_wp2_with (refine HST.znr.za6 (n*v.size) (bs.map B) rfl rfl rfl rfl Tryz.underlying22 zl (fun _=>rfl) hl2 (by rw [yf,HBN.znr];exact (Nat.min_self _).symm) (by rw [yf,yf];exact HFI.znr) (zg _) ?_)
 intro w3 hb3 ho3
 rw [HSP.znr] at hb3
 have HC:=znq (HC.znr.trans (Chg.rA (zI.nH ho3)))
 have H2:=znq (H2.znr.only ho3 (by omega))
 have H3:=znq (H3.znr.only ho3 (by omega))
 have HX3:=znq (show y4 117 F w3 q vp sp v2 (y5 v2) np xp from H0.znr.to HC.znr (by rw [HV2.znr.2.2.2.2.1,HV2.znr.2.2.2.2.2.1];exact HX2.znr.cells.only ho3 HNE.znr) (by rw [HV2.znr.2.2.2.1];exact hb3) HV2.znr.1 HV2.znr.2.1 HV2.znr.2.2.1)
 clear hb3 ho3 hp1 hl2 HX2 HST H1
 go_wp2
 have hl1:=fun (x:xR zW w3.drew)=>(H2.znr.drew.below x.rel H2.znr.drew.lt).cell 0 _ rfl
 have hl2:=fun (x:xR zW w3.drew)=>(H3.znr.drew.below x.rel H3.znr.drew.lt).cell 0 _ rfl
 go_wp2_with fail
 refine Yh zW [5] [(0,true),(1,true),(2,true),(4,true),(3,false),(5,false)] zW.refl (fun _ _ _ h k=>h.trans k) (by kernel_rfl) (by kernel_rfl) ?_
 rintro w4 rfl
 iterate 4 refine m1K ?_
 have HX4:=znq (HX3.znr.below ((Below.refl _ _).drew:Below w3.heap.size w3 w3.drew))
 have HC:=znq HC.znr.drew
 clear hl1 hl2 HX3 H2 H3
 refine xL rfl (by rfl) (fun K hK=>?_)
 go_simp
 refine (zr2 n HX4.znr).mono ?_
 rintro e w5 ⟨cp,rfl,hk,rfl⟩
 have HK:=znq hk.self
 rw [HV2.znr.2.2.2.2.2.2.2.2] at HK
 go_simp
 refine hK _ _ (fun _=>Below.refl _ _) ?_
 clear hK K hk
 refine xL rfl (by rfl) (fun K hK=>?_)
 go_simp
 refine (zrk cp (v.nk n) n false HX4.znr HK.znr (by rw [HV2.znr.2.2.2.2.2.2.1];exact HKL.znr) (by rw [HV2.znr.2.2.2.2.2.2.2.1];exact HN.znr)).mono ?_
 rintro e w6 ⟨⟨z,rfl⟩,hb6,ho6⟩
 rw [HV2.znr.2.2.2.2.2.2.1,HV2.znr.2.2.2.1] at hb6
 have HC:=znq (HC.znr.trans (Chg.rA ho6))
 have HX6:=znq (show y4 117 F w6 q vp sp (v.put n bs) (y5 (v.put n bs)) np xp from H0.znr.to HC.znr (by rw [HR.znr.2.2.2.2.2.1,HR.znr.2.2.2.2.2.2,← HV2.znr.2.2.2.2.1,← HV2.znr.2.2.2.2.2.1];exact HX4.znr.cells.pR ho6 HNE.znr) (by rw [HR.znr.2.1];exact hb6) HR.znr.2.2.1 HR.znr.2.2.2.1 HR.znr.2.2.2.2.1)
 clear hb6 ho6
 go_simp
 refine hK _ _ (fun hno=>absurd hno (by decide)) ?_
 clear hK K
 refine kN ?_
 go_wp2
 go_ret
 exact ⟨0,rfl,by rw [HR.znr.1],by rw [HR.znr.1];exact HX6.znr,HC.znr⟩
theorem zre {w:World} {F:List Nat} {q vp sp:Nat} {v:Vol} {np:Nat} {xp:Value} (n:Int) (ba:Option Addr) (bn bc:Nat) (bs:List UInt8) (h:y4 117 F w q vp sp v (y5 v) np xp) (hr:v.reads≤1000000∧v.writes≤1000000) (hbn:bs.length=bn) (hl:zij F w (fun w'=>zr w' ba (bs.map B))) :
  Calls Tryz.prog 22 #[.pointer (some ⟨vp,0,none⟩),.int .i64 n,.slice ba bn bc] w fun e w'=>e=.returned (.int .i64 (v.write n bs).2)∧y4 117 F w' q vp sp (v.write n bs).1 (y5 (v.write n bs).1) np xp∧Chg vp sp w w':=by
 have HV:=znq h
 have HBN:=znq hbn
 have HLB:=znq hl
 have HS:=znq (St.start w)
 obtain ⟨r,hrr⟩:∃ r,r=v.write n bs:=⟨_,rfl⟩
 have HR:=znq hrr
 rw [← hrr]
 by_cases hn:v.has n
 rotate_left
 ·have HNO:=znq hn
  have HE:=znq (show r=(v,11) from by rw [hrr];unfold Vol.write;rw [if_neg hn])
  clear h hbn hl hn hrr
  go_enter Tryz.func22,Tryz.ntmps22
  go_wp2_with (refine zh 39 _ [.pointer (some ⟨vp,0,none⟩)] _ rfl rfl rfl rfl ?_)
  intro w1 hb hbel;have HS:=znq (HS.znr.push hb hbel);clear hb hbel
  go_wp2_with (refine zh 3 _ [.int .i64 n] _ rfl rfl rfl rfl ?_)
  intro w2 hb hbel;have HS:=znq (HS.znr.push hb hbel);clear hb hbel
  go_wp2_with (refine zh 22 _ [.slice ba bn bc] _ rfl rfl rfl rfl ?_)
  intro w3 hb hbel;have HS:=znq (HS.znr.push hb hbel);clear hb hbel
  have hx1:=(HS.znr.get 2 rfl).cell 0 _ rfl
  have hx2:=(HS.znr.get 1 rfl).cell 0 _ rfl
  go_wp2_with fail
  refine (zsy n _ (HV.znr.below HS.znr.bel) HNO.znr).mono ?_
  rintro e w4 ⟨rfl,rfl⟩
  go_wp2
  go_ret
  rw [HE.znr]
  exact ⟨rfl,HV.znr.below HS.znr.bel,Chg.of_below HS.znr.bel⟩
 obtain ⟨m,rfl⟩:∃ m:Nat,n=(m:Int):=⟨n.toNat,by unfold Vol.has at hn;omega⟩
 have HN:=znq (show m < v.mK from by unfold Vol.has at hn;omega)
 have hen:=zrv
 clear h hbn hl hn hrr
 go_enter Tryz.func22,Tryz.ntmps22
 go_wp2_with (refine zh 39 _ [.pointer (some ⟨vp,0,none⟩)] _ rfl rfl rfl rfl ?_)
 intro w1 hb hbel;have HS:=znq (HS.znr.push hb hbel);have g1:=hbel.size;clear hb hbel
 go_wp2_with (refine zh 3 _ [.int .i64 m] _ rfl rfl rfl rfl ?_)
 intro w2 hb hbel;have HS:=znq (HS.znr.push hb hbel);have g2:=hbel.size;clear hb hbel
 go_wp2_with (refine zh 22 _ [.slice ba bn bc] _ rfl rfl rfl rfl ?_)
 intro w3 hb hbel;have HS:=znq (HS.znr.push hb hbel);clear hb hbel
 have hx1:=(HS.znr.get 2 rfl).cell 0 _ rfl
 have hx2:=(HS.znr.get 1 rfl).cell 0 _ rfl
 have HVX:=znq (HV.znr.below HS.znr.bel)
 generalize hbb:w.heap.size=bb at *
 go_wp2_with fail
 refine (zsg 61 _ _ _ m (fun c w'=>c=(v.write m bs).2∧y4 117 F w' q vp sp (v.write m bs).1 (y5 (v.write m bs).1) np xp∧Chg vp sp w w') HVX.znr HN.znr hen
  (fun w' hb'=>(zta w2.heap.size bb w1.heap.size m ba bn bc bs HV.znr (by rw [hbb];exact HS.znr.bel.trans (hb'.mono HS.znr.size)) HN.znr hr ((HS.znr.later hb').get 0 rfl) ((HS.znr.later hb').get 2 rfl) ((HS.znr.later hb').get 1 rfl) (by omega) (by omega) (by omega) HBN.znr HLB.znr))).mono ?_
 rintro e w4 ⟨c,rfl,rfl,hvi,hch⟩
 rw [← HR.znr] at hvi
 rw [← HR.znr]
 have HZ:=znq (And.intro hvi hch)
 clear hvi hch hx1 hx2 hen
 go_wp2
 go_ret
 exact ⟨rfl,HZ.znr.1,HZ.znr.2⟩
end Go.Proofs.YtamdifhibogdiaaGreatDoor
namespace Go.Proofs.YtamdifhibogdiaaGreatDoor
open RowKit Mem Ops Cells Oct Trn Aes Ring Ezk Blake Adi Hct Wid Vol Fl ru
attribute [local irreducible] zE zN zO zM yu
structure Qs (F:List Nat) (w:World) (q p:Nat):Prop where
 tab:zij F w (fun w'=>Tab w' q p)
 q:q∉F
 p:p∉F
 lt:∀ i∈F,i < w.heap.size
theorem Qs.at {F:List Nat} {w w':World} {q p:Nat} (h:Qs F w q p) (hu:Up (Qp F) w w'):Qs F w' q p:=⟨h.tab.at hu,h.q,h.p,fun i hi=>bI (h.lt i hi) hu.size⟩
end Go.Proofs.YtamdifhibogdiaaGreatDoor
namespace Go.Vol
open Wid
end Go.Vol
namespace Go.Proofs.YtamdifhibogdiaaGreatDoor
open RowKit Mem Ops Cells Oct Trn Aes Ring Ezk Blake Adi Hct Wid Vol Fl ru
attribute [local irreducible] zE zN zO zM yu
abbrev zr6 (vp:Nat) (ka:Option Addr) (kn kc:Nat) (us:Nat→Value):Act:={ tmps:=#[.pointer (some ⟨vp,0,none⟩),.slice ka kn kc,us 2,us 3,us 4,us 5,us 6,us 7,us 8,us 9,us 10,us 11,us 12,us 13,us 14,us 15,us 16,us 17,us 18,us 19,us 20],defers:=[] }
def QU (F:List Nat) (q vp sp:Nat) (ka:Option Addr) (kn kc:Nat) (v:Vol) (k:ku) (w:World) (x:Act) (wr:World):Prop :=
 ∃ (j:Nat) (us:Nat→Value) (np:Nat) (xp:Value),x=zr6 vp ka kn kc us∧j < v.mK∧Hid (y4 117 F wr q vp sp (q5 k j (v.begin' k)) (y5 (q5 k j (v.begin' k))) np xp)∧Hid (Chg vp sp w wr)
theorem QU.intro {F:List Nat} {q vp sp:Nat} {ka:Option Addr} {kn kc:Nat} {v:Vol} {k:ku} {w:World} {x:Act} {wr:World} (j np:Nat) (xp:Value) (hx:x=zr6 vp ka kn kc (fun i=>x.tmps.getD i undef)) (hj:j < v.mK) (hv:y4 117 F wr q vp sp (q5 k j (v.begin' k)) (y5 (q5 k j (v.begin' k))) np xp) (hc:Chg vp sp w wr) :
  QU F q vp sp ka kn kc v k w x wr:=⟨j,_,np,xp,hx,hj,hv,hc⟩
end Go.Proofs.YtamdifhibogdiaaGreatDoor
namespace Go.Proofs.YtamdifhibogdiaaGreatDoor
open RowKit Mem Ops Cells Oct Trn Aes Ring Ezk Blake Adi Hct Wid Vol Fl ru
attribute [local irreducible] zE zN zO zM yu
theorem zsr:Row Tryz.prog 38 3:=⟨by kernel_rfl,by kernel_rfl⟩
theorem zto (q np sp:Nat) (alg size mK:Int) (st:Nat):Tryz.prog.built 117 [(0,.pointer (some ⟨q,0,none⟩)),(1,.agg #[.int .i64 alg,.int .i64 size,.int .i64 mK]),(2,.pointer (some ⟨np,0,none⟩)),(5,.slice (some ⟨sp,0,none⟩) st st)] =
  some #[.pointer (some ⟨q,0,none⟩),.int .i64 alg,.int .i64 size,.int .i64 mK,.pointer (some ⟨np,0,none⟩),.pointer none,.int .i64 0,.slice (some ⟨sp,0,none⟩) st st,.complex .f64 0 0]:=by kernel_rfl
def zki (alg:Int) (size mK:Nat) (k:ku) (n:Nat):Vol:=⟨alg,size,mK,k,none,0,zri size k (zf (size*mK)) n,0,0⟩
theorem zr7 (F0:List Nat) (q p:Nat) (alg:Int) (size mK:Nat) (ka:Option Addr) (kn kc:Nat) (key:List UInt8) (w:World) (hz:16≤size∧size≤4096) (hs:1≤mK∧mK≤256) (hw:ko alg kn=0) (hkn:key.length=kn) (hkc:kn≤kc) (hkl:zr w ka (key.map B)) (ht:Tab w q p) (hg:qD w) (hF0:∀ i∈F0,i < w.heap.size∧i≠q∧i≠p) :
  Calls Tryz.prog 21 #[.pointer (some ⟨q,0,none⟩),.agg #[.int .i64 alg,.int .i64 size,.int .i64 mK],.slice ka kn kc] w fun e w'=>∃ vp sp np,e=.returned (.tuple #[.pointer (some ⟨vp,0,none⟩),.int .i64 0]) ∧
   y4 117 (vp::sp::F0) w' q vp sp (zim alg size mK key) (y5 (zim alg size mK key)) np (.pointer none)∧Qs (vp::sp::F0) w' q p∧w.heap.size≤vp∧w.heap.size≤sp∧Below w.heap.size w w':=by
 have HS:=znq (St.start w)
 have HT:=znq ht
 have HKL:=znq hkl
 have HG:=znq hg
 have HKN:=znq hkn
 have HW:=znq hw
 obtain ⟨k,hk⟩:∃ k,k=jy alg key:=⟨_,rfl⟩
 have HKF:=znq (show jy alg key=k∧zq3 size k from ⟨hk.symm,by rw [hk];exact znp alg key hz.1⟩)
 obtain ⟨st,hst⟩:∃ st,st=size*mK:=⟨_,rfl⟩
 have hstm:st≤1048576:=by rw [hst];exact mg hz.2 hs.2
 have e1:IntKind.i64.wrap ((size:Int)*(mK:Int))=(st:Int):=by
  have e:((size:Int)*(mK:Int))=(st:Int):=by rw [hst];push_cast;rfl
  rw [e];exact IntWalk.i64_in _ (by omega)
 have HST:=znq (show size*mK=st∧True from ⟨hst.symm,trivial⟩)
 have HFV:=znq (show zim alg size mK key=zki alg size mK k mK from by unfold zim zki;rw [hk])
 have HOK:=znq (show ∀ n,n≤mK→(zki alg size mK k n).pg from fun n hn=>⟨hz,hs,by
  show (zri _ _ _ _).length=_
  rw [zqv (zd _) HKF.znr.2.least n hn,zd]
  rfl,HKF.znr.2,fun k h=>by cases h⟩)
 have HSZ:=znq hz
 have HSS:=znq hs
 have hq:=ht.tab.lt
 have hp:=ht.boxes.lt
 have d1:decide ((size:Int) < 16)=false:=by simp;omega
 have d2:decide ((size:Int) > 4096)=false:=by simp;omega
 have d3:decide ((mK:Int) < 1)=false:=by simp;omega
 have d4:decide ((mK:Int) > 256)=false:=by simp;omega
 have HF0:=znq hF0
 clear hz hs hw hkn hkl ht hg hk hst hF0
 go_enter Tryz.func21,Tryz.ntmps21
 go_wp2_with (refine zh 38 _ [.int .i64 alg,.int .i64 size,.int .i64 mK] _ rfl rfl rfl rfl ?_)
 intro w1 hb hbel;have HS:=znq (HS.znr.push hb hbel);clear hb hbel
 have hx0:=(HS.znr.get 0 rfl).cell 0 _ rfl
 have hx1:=(HS.znr.get 0 rfl).cell 1 _ rfl
 have hx2:=(HS.znr.get 0 rfl).cell 2 _ rfl
 go_wp2_with fail
 refine (zgk alg q p ka kn kc key _ HKN.znr HW.znr hkc (HKL.znr.below HS.znr.bel) (HT.znr.below HS.znr.bel (xc _)) (HG.znr.below HS.znr.bel)).mono ?_
 rintro e w2 ⟨np,rfl,zlM,hbel⟩
 rw [HKF.znr.1] at zlM
 have HSTD:=znq zlM
 have hz1:=HS.znr.size
 have HS:=znq (HS.znr.later hbel)
 have hz2:=HS.znr.size
 have HB2:=znq hbel
 clear zlM hbel hx0 hx1 hx2
 have hx1:=fun (y:zG w2.drew)=>((HS.znr.drew.later y.later).get 0 rfl).cell 1 _ rfl
 have hx2:=fun (y:zG w2.drew)=>((HS.znr.drew.later y.later).get 0 rfl).cell 2 _ rfl
 go_wp2_with fail
 refine zn [0,1,2,3,4,5,6,7,8,9,10,11] (by kernel_rfl) (by kernel_rfl) ?_
 rintro w3 rfl
 refine mqR ?_
 have HS:=znq HS.znr.drew
 refine zt (HS.znr.get 0 rfl).range (HS.znr.get 0 rfl).lt zsr rfl rfl rfl rfl rfl (fun K hK=>?_)
 go_simp;refine hK _ ?_;clear hK K
 refine mqR ?_
 clear hx1 hx2
 have HBX:=znq (show Below w2.heap.size w2 w2.drew from (Below.refl _ _).drew)
 refine zi rfl rfl (by rfl) (fun K hK=>?_)
 refine zpb 22 5 (.int .u8 0) 1 st rfl rfl rfl Tryz.underlying22 yq rfl rfl rfl (by omega) (by unfold maxLen;omega) (fun w4 hb4 nD=>?_)
 rw [zfE] at hb4
 refine hK _ _ nD ?_
 have HS:=znq (HS.znr.push hb4 nD)
 have HBX:=znq (HBX.znr.trans nD)
 have hz4:w2.heap.size < w4.heap.size:=hb4.lt
 clear hK K hb4 nD
 go_simp
 refine kQ rfl rfl (by rfl) 117 _ _ _ rfl rfl (zto q np w2.heap.size alg size mK st) (fun K hK=>?_)
 go_simp
 refine hK _ ?_
 clear hK K
 refine zi rfl rfl (by rfl) (fun K hK=>?_)
 refine zj5 117 _ [.pointer (some ⟨q,0,none⟩),.int .i64 alg,.int .i64 size,.int .i64 mK,.pointer (some ⟨np,0,none⟩),.pointer none,.int .i64 0,.slice (some ⟨w2.heap.size,0,none⟩) st st,.complex .f64 0 0] _ rfl rfl rfl (fun w5 hb5 mX=>hK _ _ mX ?_)
 clear hK K
 have HS:=znq (HS.znr.push hb5 mX)
 have HBX:=znq (HBX.znr.trans (mX.mono (by omega)))
 have hz5:w4.heap.size < w5.heap.size:=hb5.lt
 have hbc:=HS.znr.get 0 rfl
 have hbs:=HS.znr.get 1 rfl
 clear hb5 mX
 go_simp
 refine mqR ?_
 refine zo ?_
 have HVI:=znq (show y4 117 (w4.heap.size::w2.heap.size::F0) w5 q w4.heap.size w2.heap.size (zki alg size mK k 0) (y5 (zki alg size mK k 0)) np (.pointer none) from
  ⟨HOK.znr 0 (by omega),by omega,by simp,by
   have e0:fl 0=0:=Qc
   unfold y5 zgl zki
   simp only [e0]
   rw [HST.znr.1]
   exact hbc,by
   show Blk w5 w2.heap.size ((zf (size*mK)).map B) _
   rw [HST.znr.1]
   exact hbs,zij.zaZ HSTD.znr HBX.znr (fun i hi=>by
   rcases uB.1 hi with rfl | hi
   ·exact .inl (by omega)
   ·rcases uB.1 hi with rfl | hi
    ·exact .inl (xc _)
    ·have h:=HF0.znr i hi
     exact .inr ⟨by omega,by simp;omega⟩),rfl⟩)
 have HTB:=znq (show Qs (w4.heap.size::w2.heap.size::F0) w5 q p from by
  have h5:=HT.znr.below HS.znr.bel (xc _)
  have hqF:q∉w4.heap.size::w2.heap.size::F0:=by
   simp only [uB,not_or]
   exact ⟨by omega,by omega,fun h=>(HF0.znr _ h).2.1 rfl⟩
  have hpF:p∉w4.heap.size::w2.heap.size::F0:=by
   simp only [uB,not_or]
   exact ⟨by omega,by omega,fun h=>(HF0.znr _ h).2.2 rfl⟩
  refine ⟨fun w' hu=>⟨h5.boxes.up hu hpF,h5.tab.up hu hqF⟩,hqF,hpF,fun i hi=>?_⟩
  rcases uB.1 hi with rfl | hi
  ·omega
  ·rcases uB.1 hi with rfl | hi
   ·omega
   ·have h:=HF0.znr i hi
    omega)
 have HBE:=znq HS.znr.bel
 have hvp:w.heap.size≤w4.heap.size:=by omega
 have hsp:w.heap.size≤w2.heap.size:=by omega
 have hx2:=(HS.znr.get 2 rfl).cell 2 _ rfl
 clear hbc hbs d1 d2 d3 d4 e1 hq hp hz1 hz2 hz4 hz5 HSTD HBX HB2 HS HT HKL HG
 generalize w4.heap.size=vp at *
 generalize w2.heap.size=sp at *
 go_wp2
 go_loopw [57] (fun c wr=>∃ n:Nat,n≤mK∧c=.int .i64 n∧Hid (y4 117 (vp::sp::F0) wr q vp sp (zki alg size mK k n) (y5 (zki alg size mK k n)) np (.pointer none))∧Hid (Chg vp sp w5 wr)) (fun c _=>mK - (intOf c).toNat)
 case atStart=>exact ⟨0,by omega,rfl,HVI,Chg.refl _ _ _⟩
 case round =>
  obtain ⟨n,hn,rfl,HV,HC⟩:=hrel
  have hsm:=HSS.znr.2
  by_cases hlt:n < mK
  ·have d0:decide (n < mK)=true:=by simp;omega
   have hc4:=HV.znr.cells.cell 4 (.pointer (some ⟨np,0,none⟩)) rfl
   go_wp2_with fail
   refine (zrk np k n false HV.znr HV.znr.now.self HKF.znr.2.least hlt).mono ?_
   rintro e w6 ⟨⟨z,rfl⟩,hb6,ho6⟩
   have HC:=znq (HC.znr.trans (Chg.rA ho6))
   have HV6:=znq (show y4 117 (vp::sp::F0) w6 q vp sp (zki alg size mK k (n+1)) (y5 (zki alg size mK k (n+1))) np (.pointer none) from
    HV.znr.to (Chg.rA ho6) (HV.znr.cells.pR ho6 HV.znr.ne) hb6 (HOK.znr (n+1) hlt) rfl rfl)
   clear hb6 ho6 hc4 d0
   go_wp2
   go_roundw
   case rel=>exact ⟨n+1,by omega,by go_num,HV6,HC⟩
   case measure=>simp [intOf];omega
  ·obtain rfl:n=mK:=by omega
   go_wp2
   go_ret2
   rw [HFV.znr]
   exact ⟨vp,sp,np,rfl,HV.znr,HTB.znr.at (HC.znr.up (by simp)),hvp,hsp,HC.znr.bel HBE.znr HBE.znr.size hvp hsp⟩
end Go.Proofs.YtamdifhibogdiaaGreatDoor
namespace Go.Slot
open Ops Oct Gf Trn Aes Ring Ezk Ezh Ezt Ezc Blake Aez
abbrev Hdr:=List (List UInt8)
def ZP (n:Nat):List UInt8:=zz (wF n)
def rowS (n:Nat):List (List UInt8):=vb 16 (ZP n) []
def zn2 (n:Nat) (pass secret:List UInt8):List UInt8:=zn7 (zqx pass) (rowS n) 16 secret
def zo6 (n:Nat) (pass b:List UInt8):Option (List UInt8):=zop (zqx pass) (rowS n) 16 b
theorem zn6 (n:Nat) (pass secret:List UInt8):(zn2 n pass secret).length=secret.length+16:=zoi _ _ _ _
theorem zpg (n:Nat) (pass secret:List UInt8):zo6 n pass (zn2 n pass secret)=some secret:=zpn _ _ _ _
def zpw:Nat→Hdr→List Nat
 | _,[]=>[]
 | n,b::r=>if b.length=0 then zpw (n+1) r else n::zpw (n+1) r
def zn4 (pass:List UInt8):Nat→Hdr→Option (List UInt8×Nat)
 | _,[]=>none
 | n,b::r=>if b.length=0 then zn4 pass (n+1) r else match zo6 n pass b with
  | some m=>some (m,n)
  | none=>zn4 pass (n+1) r
def zov (pass:List UInt8) (s:Hdr):Option (List UInt8×Nat):=zn4 pass 0 s
def pg (s:Hdr):Prop:=∀ b∈s,b.length=0∨17≤b.length∧b.length≤80
def zn9:Hdr:=wh 8 []
end Go.Slot
namespace Go.Proofs.YtamdifhibogdiaaGreatDoor
open RowKit Mem Ops Cells Oct Gf Trn Aes Ring Ezk Ezh Ezt Aez ru Fl
attribute [local irreducible] zE zN zO zM yu
theorem zo7 (n:Nat) (w:World) (hn:n < 8):Calls Tryz.prog 56 #[.int .i64 n] w fun e w'=>∃ a,e=.returned (.slice (some a) 8 8)∧zr w' (some a) ((Slot.ZP n).map B)∧Below w.heap.size w w':=by
 have e0:IntKind.u64.wrap (n:Int)=((wF n).toNat:Int):=by
  rw [UInt64.toNat_ofNat_of_lt' (by show n < 18446744073709551616;omega)]
  simp [IntKind.wrap,IntKind.bits,IntKind.signed];omega
 have HS:=znq (St.start w)
 have HPL:=znq (zK (wF n))
 go_enter Tryz.func56,Tryz.ntmps56
 go_wp2_with fail
 refine (kH (wF n) _).mono ?_
 rintro e w1 ⟨rfl,nC⟩
 have HS:=znq (HS.znr.later nC)
 have hz1:=HS.znr.size
 clear nC
 go_wp2_with (refine ze 127 ((zf 8).map B) _ rfl rfl vJ rfl ?_)
 intro w2 hb hbel;have HS:=znq (HS.znr.push hb hbel);have hlt2:=hb.lt;clear hb hbel
 go_wp2_with (refine (HS.znr.get 0 rfl).mM rfl rfl rfl (cs:=(zz (wF n)).map B) rfl kM (by simp [zd]) (by simp [HPL.znr]) (zg _) ?_)
 intro w3 hb3 ho3
 have HL:=znq hb3.lies
 have HB:=znq (zk HS.znr.bel ho3 hz1)
 clear hb3 ho3
 go_wp2
 go_ret
 exact ⟨_,rfl,HL.znr,HB.znr⟩
end Go.Proofs.YtamdifhibogdiaaGreatDoor
namespace Go.Mem
open RowKit Cells Ops
theorem zox {P:Program} {w:World} {ops:Array Oper} {rest:List Oper} {o:Oper} {a:Act} {Q:Exit→Act→World→Prop} (t:TypeId) (parts:Array (Nat×Operand)) (vs:List (Nat×Value)) (cells:Array Value)
  (hg:o.guard=none) (hop:o.op=.build t parts) (hp':(parts.toList.map fun p=>(p.1,a.eval p.2))=vs) (hb:P.built t vs=some cells)
  (k:wpList P ops Q rest (a.put o.dst (.agg cells)) w):wpList P ops Q (o::rest) a w:=by
 have hp:(parts.map fun (i,x)=>(i,a.eval x))=vs.toArray:=by
  apply Array.toList_inj.1
  rw [Array.toList_map]
  exact hp'
 refine wpList_plain hg fun K hK=>?_
 have hrun:=run_build (P:=P) w t vs.toArray cells (by simpa using hb)
 unfold Oper.wp
 simp only [execOp,hop,hp,Sem.run_bind,hrun,Result.andThen_ok,Sem.run_pure]
 exact hK _ _ k
theorem _root_.Go.Cells.Blk.ne {w:World} {b c:Nat} {vs us:List Value} {t t':TypeId} (h:Blk w b vs t) (k:Blk w c us t') (hne:t≠t'):b≠c:=by
 rintro rfl
 unfold Blk at h k
 rw [h] at k
 cases k
 exact hne rfl
def Xf:Str:=⟨none,0,[]⟩
theorem zp9 (w:World):Xf.In w:=⟨xc _,zr.nil _ _⟩
theorem zo8 (s:Str) (x:UInt8):B x≠s.val:=by simp [Str.val]
end Go.Mem
namespace Go.Proofs.YtamdifhibogdiaaGreatDoor
open RowKit Mem Ops Cells Oct Gf Trn Aes Ring Ezk Ezh Ezt Aez Blake ru Fl Slot
attribute [local irreducible] zE zN zO zM yu
def zn3 (q:Nat) (ss:List Str):List Value:=.pointer (some ⟨q,0,none⟩)::ss.map Str.val
structure Head (w:World) (hp q p:Nat) (ss:List Str):Prop where
 tab:Tab w q p
 blk:Blk w hp (zn3 q ss) 106
 len:ss.length=8
 each:∀ s∈ss,s.In w
 nil:∀ s∈ss,s.bs.length=0→s.a=none
theorem Head.later {w w':World} {hp q p:Nat} {ss:List Str} (h:Head w hp q p ss) (hb:Below w.heap.size w w'):Head w' hp q p ss :=
 ⟨h.tab.below hb (xc _),h.blk.below hb h.blk.lt,h.len,fun s hs=>(h.each s hs).below hb,h.nil⟩
theorem Head.drew {w:World} {hp q p:Nat} {ss:List Str} (h:Head w hp q p ss):Head w.drew hp q p ss:=h.later (Below.refl _ _).drew
theorem Head.YE {w:World} {hp q p:Nat} {ss:List Str} (h:Head w hp q p ss):w.cell? ⟨hp,0,none⟩=some (.pointer (some ⟨q,0,none⟩)):=h.blk.cell 0 _ rfl
theorem Head.cells {w:World} {hp q p:Nat} {ss:List Str} (h:Head w hp q p ss) (i:Nat) (s:Str) (hs:ss[i]? = some s):w.cell? ⟨hp,1+i,none⟩=some s.val:=h.blk.cell (1+i) _ (by rw [fI];simp [zn3,hs])
theorem Head.range {w:World} {hp q p:Nat} {ss:List Str} (h:Head w hp q p ss):w.rangeAt hp 1 (ss.map Str.val):=Blk.nA h.blk 1 8 _ (by simp [zn3,List.take_of_length_le,h.len])
theorem Head.set {w w':World} {hp q p:Nat} {ss:List Str} (h:Head w hp q p ss) (i:Nat) (s:Str) (hs:s.In w) (hn:s.bs.length=0→s.a=none) (hb:Blk w' hp ((zn3 q ss).set (1+i) s.val) 106) (ho:Only hp w w'):Head w' hp q p (ss.set i s):=by
 have hB:∀ x:UInt8,B x∉zn3 q ss:=by
  intro x hx
  simp [zn3] at hx
  obtain ⟨t,_,ht⟩:=hx
  exact zo8 t x ht.symm
 refine ⟨h.tab.only ho (h.tab.boxes.ne h.blk (by decide)) (h.tab.tab.ne h.blk (by decide)),?_,by rw [List.length_set];exact h.len,?_,?_⟩
 ·have:(zn3 q ss).set (1+i) s.val=zn3 q (ss.set i s):=by rw [fI];simp [zn3,List.map_set]
  rw [← this];exact hb
 ·intro t ht
  rcases jh ht with ht | rfl
  ·exact (h.each t ht).only h.blk hB ho
  ·exact hs.only h.blk hB ho
 ·intro t ht h0
  rcases jh ht with ht | rfl
  ·exact h.nil t ht h0
  ·exact hn h0
theorem zph (q:Nat):Tryz.prog.built 106 [(0,.pointer (some ⟨q,0,none⟩))]=some (zn3 q (wh 8 Xf)).toArray:=by kernel_rfl
theorem zo9 (q p:Nat) (w:World) (ht:Tab w q p):Calls Tryz.prog 17 #[.pointer (some ⟨q,0,none⟩)] w fun e w'=>∃ hp,e=.returned (.pointer (some ⟨hp,0,none⟩))∧Head w' hp q p (wh 8 Xf)∧w.heap.size≤hp∧Below w.heap.size w w':=by
 have HT:=znq ht
 have hbt:=zph q
 clear ht
 go_enter Tryz.func17,Tryz.ntmps17
 go_wp2_with (first | (refine zox 106 _ _ _ rfl rfl rfl hbt ?_) | (refine zh 106 _ (zn3 q (wh 8 Xf)) _ rfl rfl rfl rfl ?_))
 intro w1 hb hbel
 have HH:=znq (show Head w1 w.heap.size q p (wh 8 Xf) from ⟨HT.znr.below hbel (xc _),hb,rfl,by
  intro s hs
  obtain rfl:=ji hs
  exact zp9 _,by
  intro s hs _
  obtain rfl:=ji hs
  rfl⟩)
 have HB:=znq hbel
 clear hb hbel hbt
 go_wp2
 go_ret
 exact ⟨_,rfl,HH.znr,xc _,HB.znr⟩
end Go.Proofs.YtamdifhibogdiaaGreatDoor
namespace Go.Slot
end Go.Slot
namespace Go.Proofs.YtamdifhibogdiaaGreatDoor
open RowKit Mem Ops Cells Oct Gf Trn Aes Ring Ezk Ezh Ezt Aez Blake ru Fl Slot
attribute [local irreducible] zE zN zO zM yu
theorem zoy:(Tryz.prog.underlying 22).map (·.isRow)=some false:=by kernel_rfl
theorem zor:(Tryz.prog.info? 104).map (·.size)=some 8:=by kernel_rfl
theorem zqa {ss:List Str} {i:Nat} {s:Str} (h:ss[i]? = some s):(ss.map Str.val).toArray[i]? = some s.val:=by simp [h]
end Go.Proofs.YtamdifhibogdiaaGreatDoor

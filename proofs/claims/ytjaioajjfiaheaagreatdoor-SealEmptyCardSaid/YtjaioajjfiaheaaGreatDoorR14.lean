/-
  Texts of this claim, one behind the other.
-/
import Derived.Test.YtjaioajjfiaheaaGreatDoorR1
import Derived.Test.YtjaioajjfiaheaaGreatDoorR7
import Derived.Test.YtjaioajjfiaheaaGreatDoorR12
import Derived.Test.YtjaioajjfiaheaaGreatDoorR9
import Derived.Lib.Hide
set_option linter.unusedVariables false
set_option linter.unusedSimpArgs false
set_option maxHeartbeats 16000000
set_option maxRecDepth 100000
namespace Go.AesI
open Go.Ops Go.Oct Go.Gf Go.Trn Go.Aes Go.Ezt
def QU (f:Nat→UInt8):Nat→Nat
 | 0=>0
 | k+1=>QU f k+(f k).toNat*2 ^ (8*k)
theorem KN (f:Nat→UInt8):∀ k,QU f k < 2 ^ (8*k)
 | 0=>by simp [QU]
 | k+1=>by
  have h1:=KN f k
  have h2:=(f k).toNat_lt
  unfold QU
  rw [show 8*(k+1)=8*k+8 by omega,Nat.pow_add]
  have:(f k).toNat*2 ^ (8*k)≤255*2 ^ (8*k):=Nat.mul_le_mul_right _ (by omega)
  omega
theorem or_add {a x n:Nat} (h:a < 2 ^ n):a ||| x*2 ^ n=a+x*2 ^ n:=by
 have:=Nat.shiftLeft_add_eq_or_of_lt h x
 rw [Nat.shiftLeft_eq] at this
 rw [Nat.or_comm,← this,Nat.add_comm]
theorem XJ (f:Nat→UInt8):∀ k,k≤8→(Z9 f k).toNat=QU f k
 | 0,_=>rfl
 | k+1,hk=>by
  have ih:=XJ f k (by omega)
  have h1:=KN f k
  have h2:=(f k).toNat_lt
  unfold Z9 QU
  show (Z9 f k ||| xf (Xl (f k)) (8*k)).toNat=_
  rw [UInt64.toNat_or,ih]
  have e1:(Xl (f k)).toNat=(f k).toNat:=by unfold Xl;exact UInt64.toNat_ofNat_of_lt' (by show _ < 18446744073709551616;omega)
  have h3:(f k).toNat*2 ^ (8*k) < 2 ^ 64:=by
   have h4:(f k).toNat*2 ^ (8*k)≤255*2 ^ (8*k):=Nat.mul_le_mul_right _ (by omega)
   have h5:(2:Nat) ^ (8*k)≤2 ^ 56:=Nat.pow_le_pow_right (by omega) (by omega)
   have h6:(255:Nat)*2 ^ 56 < 2 ^ 64:=by decide
   omega
  have e2:(xf (Xl (f k)) (8*k)).toNat=(f k).toNat*2 ^ (8*k):=by
   unfold xf
   rw [e1]
   exact UInt64.toNat_ofNat_of_lt' h3
  rw [e2,or_add h1]
theorem QV (f:Nat→UInt8) (j:Nat):∀ k,j < k→QU f k / 2 ^ (8*j) % 256=(f j).toNat
 | 0,h=>by omega
 | k+1,h=>by
  unfold QU
  have h2:=(f j).toNat_lt
  by_cases e:j=k
  ·subst e
   rw [Nat.add_mul_div_right _ _ (Nat.two_pow_pos _),Nat.div_eq_of_lt (KN f j),Nat.zero_add]
   exact Nat.mod_eq_of_lt h2
  ·have ih:=QV f j k (by omega)
   obtain ⟨d,hd⟩:∃ d,k=j+1+d:=⟨k - (j+1),by omega⟩
   have e1:(f k).toNat*2 ^ (8*k)=((f k).toNat*2 ^ (8*d)*256)*2 ^ (8*j):=by
    rw [show (2:Nat) ^ (8*k)=2 ^ (8*d)*256*2 ^ (8*j) by rw [hd,show 8*(j+1+d)=8*d+8+8*j by omega,Nat.pow_add,Nat.pow_add]]
    simp only [Nat.mul_assoc]
   rw [e1,Nat.add_mul_div_right _ _ (Nat.two_pow_pos _),Nat.add_mul_mod_self_right,ih]
theorem zae (x:UInt32):(Xk x).toNat=x.toNat % 256:=by unfold Xk;exact UInt8.toNat_ofNat'
theorem zco (x:UInt32) (n:Nat):(Y5 x n).toNat=x.toNat / 2 ^ n:=by
 unfold Y5
 exact UInt32.toNat_ofNat_of_lt' (Nat.lt_of_le_of_lt (Nat.div_le_self _ _) x.toNat_lt)
def jg (n:UInt32) (j:Nat):UInt8:=Xk (Y5 n (8*j))
theorem YV (n:UInt32) (j:Nat):(jg n j).toNat=n.toNat / 2 ^ (8*j) % 256:=by unfold jg;rw [zae,zco]
theorem Kp (n:UInt32) {j:Nat} (h:j < 4):at8 (putWord n) j=jg n j:=at8_some (by simp [putWord,jg,h])
theorem zhh (b:List UInt8) (at':Nat):(yU b at').toNat=QU (fun k=>at8 b (at'+k)) 4:=by
 unfold yU yX
 rw [XJ _ _ (by omega)]
 exact UInt32.toNat_ofNat_of_lt' (KN _ 4)
theorem ze0 (b:List UInt8) (at':Nat) {j:Nat} (h:j < 4):jg (yU b at') j=at8 b (at'+j):=by
 apply UInt8.toNat_inj.1
 rw [YV,zhh,QV _ j 4 h]
theorem kT (a b:UInt32) (j:Nat):jg (y5 a b) j=ya (jg a j) (jg b j):=by
 apply UInt8.toNat_inj.1
 show _=(jg a j ^^^ jg b j).toNat
 rw [UInt8.toNat_xor,YV,YV,YV]
 show (a ^^^ b).toNat / _ % 256=_
 rw [UInt32.toNat_xor]
 apply Nat.eq_of_testBit_eq
 intro i
 rw [Nat.testBit_xor,show (256:Nat)=2 ^ 8 from rfl,Nat.testBit_mod_two_pow,Nat.testBit_mod_two_pow,Nat.testBit_mod_two_pow,Nat.testBit_div_two_pow,Nat.testBit_div_two_pow,Nat.testBit_div_two_pow,Nat.testBit_xor]
 cases decide (i < 8) <;> simp
theorem JK (a b:UInt32):y5 a b=y5 b a:=UInt32.xor_comm a b
theorem kU (a b c:UInt32):y5 (y5 a b) c=y5 a (y5 b c):=UInt32.xor_assoc a b c
theorem ze1 (a b c d:UInt32):y5 (y5 a b) (y5 c d)=y5 (y5 a c) (y5 b d):=by
 rw [kU,← kU b c d,JK b c,kU c b d,← kU]
instance:Std.Associative y5:=⟨kU⟩
instance:Std.Commutative y5:=⟨JK⟩
theorem JL (a:UInt32):y5 a a=0:=UInt32.xor_self
theorem JM (a:UInt32):y5 a 0=a:=UInt32.xor_zero
theorem vW (a:UInt32):y5 0 a=a:=UInt32.zero_xor
def Xf (e:Nat→UInt32) (x:Nat):Nat→UInt32
 | 0=>0
 | k+1=>y5 (Xf e x k) (if x.testBit k then e k else 0)
theorem Wq (e:Nat→UInt32) (x y:Nat):∀ k,Xf e (x ^^^ y) k=y5 (Xf e x k) (Xf e y k)
 | 0=>(JL 0).symm
 | k+1=>by
  unfold Xf
  rw [Wq e x y k,ze1,Nat.testBit_xor]
  congr 1
  cases x.testBit k <;> cases y.testBit k <;> simp [JL,JM,vW]
theorem zf6 {f:UInt8→UInt32} (h:∀ n,n < 256→f (UInt8.ofNat n)=Xf (fun i=>f (UInt8.ofNat (2 ^ i))) n 8) (a b:UInt8):f (ya a b)=y5 (f a) (f b):=by
 have e:∀ x:UInt8,f x=Xf (fun i=>f (UInt8.ofNat (2 ^ i))) x.toNat 8:=fun x=>by
  have:=h x.toNat x.toNat_lt
  rwa [UInt8.ofNat_toNat] at this
 rw [e (ya a b),e a,e b]
 show Xf _ (a ^^^ b).toNat 8=_
 rw [UInt8.toNat_xor,Wq]
def QW (r:Nat) (y:UInt8):UInt32:=Xn Trn.mixes r y
def Qj (r:Nat) (y:UInt8):UInt32:=Xn Trn.unmixes r y
theorem zkb (r:Nat) (hr:r < 4) (a b:UInt8):QW r (ya a b)=y5 (QW r a) (QW r b) :=
 zf6 ((by decide +kernel:∀ r,r < 4→∀ n,n < 256→QW r (UInt8.ofNat n)=Xf (fun i=>QW r (UInt8.ofNat (2 ^ i))) n 8) r hr) a b
theorem zkc (r:Nat) (hr:r < 4) (a b:UInt8):Qj r (ya a b)=y5 (Qj r a) (Qj r b) :=
 zf6 ((by decide +kernel:∀ r,r < 4→∀ n,n < 256→Qj r (UInt8.ofNat n)=Xf (fun i=>Qj r (UInt8.ofNat (2 ^ i))) n 8) r hr) a b
def box8 (x:UInt8):UInt8:=at8 boxes x.toNat
def JN (x:UInt8):UInt8:=at8 boxes (256+x.toNat)
theorem zhi (x:UInt8):JN (box8 x)=x:=zd3 (p:=fun x=>JN (box8 x)=x) (by decide +kernel) x
theorem zhj (x:UInt8):box8 (JN x)=x:=zd3 (p:=fun x=>box8 (JN x)=x) (by decide +kernel) x
theorem Qk {i:Nat} (h:i < 2048):yR (entries boxes) i=entry boxes i:=by
 unfold yR entries
 simp [List.getD,h]
theorem tab_eq (r:Nat) (hr:r < 4) (x:UInt8):tab r x=QW r (box8 x):=by
 have hx:=x.toNat_lt
 unfold tab
 rw [Qk (by omega)]
 unfold entry
 rw [if_pos (by omega),show (256*r+x.toNat) / 256=r by omega,show (256*r+x.toNat) % 256=x.toNat by omega]
 rfl
theorem zkd (r:Nat) (hr:r < 4) (x:UInt8):untab r x=Qj r x:=by
 have hx:=x.toNat_lt
 unfold untab
 rw [Qk (by omega)]
 unfold entry
 rw [if_neg (by omega),show (1024+256*r+x.toNat - 1024) / 256=r by omega,show (1024+256*r+x.toNat) % 256=x.toNat by omega,UInt8.ofNat_toNat]
 rfl
def xQ (f:Nat→UInt8→UInt32) (s:List UInt8) (c:Nat):Nat→UInt32
 | 0=>0
 | r+1=>y5 (xQ f s c r) (f r (at8 s (r+4*c)))
def QX (f:Nat→UInt8→UInt32) (w:UInt32):UInt32:=y5 (y5 (y5 (y5 0 (f 0 (jg w 0))) (f 1 (jg w 1))) (f 2 (jg w 2))) (f 3 (jg w 3))
def Add (f:Nat→UInt8→UInt32):Prop:=∀ r,r < 4→∀ a b,f r (ya a b)=y5 (f r a) (f r b)
theorem addM:Add QW:=fun r hr a b=>zkb r hr a b
theorem addA:Add Qj:=fun r hr a b=>zkc r hr a b
theorem Ql {f:Nat→UInt8→UInt32} (h:Add f) (a b:UInt32):QX f (y5 a b)=y5 (QX f a) (QX f b):=by
 unfold QX
 rw [kT,kT,kT,kT,h 0 (by omega),h 1 (by omega),h 2 (by omega),h 3 (by omega)]
 rw [vW,vW,vW]
 ac_rfl
def place (r:Nat) (y:UInt8):UInt32:=Q3 (KW y) (8*r)
theorem zmn (r:Nat) (hr:r < 4) (y:UInt8):QX Qj (QW r y)=place r y:=by
 have:=(by decide +kernel:∀ r,r < 4→∀ n,n < 256→QX Qj (QW r (UInt8.ofNat n))=place r (UInt8.ofNat n)) r hr y.toNat y.toNat_lt
 rwa [UInt8.ofNat_toNat] at this
theorem zmo (r:Nat) (hr:r < 4) (y:UInt8):QX QW (Qj r y)=place r y:=by
 have:=(by decide +kernel:∀ r,r < 4→∀ n,n < 256→QX QW (Qj r (UInt8.ofNat n))=place r (UInt8.ofNat n)) r hr y.toNat y.toNat_lt
 rwa [UInt8.ofNat_toNat] at this
theorem ZO (r:Nat) (hr:r < 4) (j:Nat) (hj:j < 4) (y:UInt8):jg (place r y) j=if j=r then y else 0:=by
 have:=(by decide +kernel:∀ r,r < 4→∀ j,j < 4→∀ n,n < 256→jg (place r (UInt8.ofNat n)) j=if j=r then (UInt8.ofNat n) else 0) r hr j hj y.toNat y.toNat_lt
 rwa [UInt8.ofNat_toNat] at this
def jh (f:Nat→UInt8→UInt32) (s:List UInt8):List UInt8:=(List.range 16).map fun i=>jg (xQ f s (i / 4) 4) (i % 4)
theorem ji (f:Nat→UInt8→UInt32) (s:List UInt8):(jh f s).length=16:=by simp [jh]
theorem wE (f:Nat→UInt8→UInt32) (s:List UInt8) {i:Nat} (h:i < 16):at8 (jh f s) i=jg (xQ f s (i / 4) 4) (i % 4):=at8_some (by simp [jh,h])
theorem ze2 (f g:Nat→UInt8→UInt32) (s:List UInt8) {c:Nat} (hc:c < 4):xQ f (jh g s) c 4=QX f (xQ g s c 4):=by
 have e:∀ r,r < 4→at8 (jh g s) (r+4*c)=jg (xQ g s c 4) r:=fun r hr=>by
  rw [wE _ _ (by omega),show (r+4*c) / 4=c by omega,show (r+4*c) % 4=r by omega]
 simp only [xQ,e 0 (by omega),e 1 (by omega),e 2 (by omega),e 3 (by omega),QX]
theorem Wr {f g:Nat→UInt8→UInt32} (hf:Add f) (hz:QX f 0=0) (h:∀ r,r < 4→∀ y,QX f (g r y)=place r y) {s:List UInt8} (hs:s.length=16):jh f (jh g s)=s:=by
 refine Yl (ji _ _) hs fun i hi=>?_
 have hc:i / 4 < 4:=by omega
 rw [wE _ _ hi,ze2 _ _ _ hc]
 have e:QX f (xQ g s (i / 4) 4)=y5 (y5 (y5 (place 0 (at8 s (0+4*(i / 4)))) (place 1 (at8 s (1+4*(i / 4))))) (place 2 (at8 s (2+4*(i / 4))))) (place 3 (at8 s (3+4*(i / 4)))):=by
  simp only [xQ]
  rw [Ql hf,Ql hf,Ql hf,Ql hf,hz,vW,h 0 (by omega),h 1 (by omega),h 2 (by omega),h 3 (by omega)]
 rw [e,kT,kT,kT,ZO 0 (by omega) _ (by omega),ZO 1 (by omega) _ (by omega),ZO 2 (by omega) _ (by omega),ZO 3 (by omega) _ (by omega)]
 obtain h0 | h0 | h0 | h0:i % 4=0∨i % 4=1∨i % 4=2∨i % 4=3:=by omega
 all_goals rw [h0];simp [zg0,Ezt.xor8_zero];congr 1;omega
def zaf (b:List UInt8):List UInt8:=(List.range 16).map (Zw b)
theorem YB (b:List UInt8):(zaf b).length=16:=by simp [zaf]
theorem JO (b:List UInt8) {i:Nat} (h:i < 16):at8 (zaf b) i=box8 (at8 b (ye (i % 4) (i / 4))):=at8_some (by simp [zaf,h];rfl)
theorem Kq (b:List UInt8) {i:Nat} (h:i < 16):at8 (qg b) i=JN (at8 b (i % 4+4*((i / 4+4 - i % 4) % 4))):=at8_some (by simp [qg,h];rfl)
theorem Qn {b:List UInt8} (hb:b.length=16):qg (zaf b)=b:=by
 refine Yl (qi _) hb fun i hi=>?_
 rw [Kq _ hi,JO _ (by omega),zhi]
 congr 1
 unfold ye
 omega
theorem Qo {b:List UInt8} (hb:b.length=16):zaf (qg b)=b:=by
 refine Yl (YB _) hb fun i hi=>?_
 rw [JO _ hi,Kq _ (by unfold ye;omega),zhj]
 congr 1
 unfold ye
 omega
theorem JP (b key:List UInt8) {c:Nat} (hc:c < 4):∀ r,r≤4→roundGo b key c r=y5 (yU key (4*c)) (xQ QW (zaf b) c r)
 | 0,_=>(JM _).symm
 | r+1,h=>by
  unfold roundGo xQ
  rw [JP b key hc r (by omega),tab_eq r (by omega),JO _ (by omega),show (r+4*c) % 4=r by omega,show (r+4*c) / 4=c by omega,kU]
theorem zcp (b key:List UInt8):round b key=both (jh QW (zaf b)) key:=by
 refine Yl (ve _ _) (zB _ _) fun i hi=>?_
 have e:at8 (round b key) i=Zv b key i:=at8_some (by simp [round,hi])
 rw [e,kg _ _ _ hi,wE _ _ hi]
 unfold Zv
 rw [Kp _ (by omega),JP b key (by omega) 4 (by omega),kT,ze0 _ _ (by omega),V4]
 congr 2
 omega
theorem Qp (b:List UInt8) (c:Nat):∀ r,r≤4→qh b c r=xQ Qj b c r
 | 0,_=>rfl
 | r+1,h=>by
  unfold qh xQ
  rw [Qp b c r (by omega),zkd r (by omega)]
theorem JQ (b key:List UInt8):vd b key=qg (jh Qj (both b key)):=by
 have e:(List.range 16).map (xT (both b key))=jh Qj (both b key):=by
  refine Yl (by rw [List.length_map,List.length_range]) (ji _ _) fun i hi=>?_
  have e:at8 ((List.range 16).map (xT (both b key))) i=xT (both b key) i:=at8_some (by rw [List.getElem?_map,List.getElem?_range hi];rfl)
  rw [e,wE _ _ hi]
  unfold xT
  rw [Kp _ (by omega),Qp _ _ 4 (by omega)]
 show qg ((List.range 16).map (xT (both b key)))=_
 rw [e]
theorem VI {b:List UInt8} (hb:b.length=16) (key:List UInt8):vd (round b key) key=b:=by
 rw [JQ,zcp,yr (ji _ _),Wr addA (by decide +kernel) zmn (YB _),Qn hb]
theorem VJ {b:List UInt8} (hb:b.length=16) (key:List UInt8):round (vd b key) key=b:=by
 rw [zcp,JQ,Qo (ji _ _),Wr addM (by decide +kernel) zmo (zB _ _),yr hb]
theorem KO (b key:List UInt8):last b key=both (zaf b) key:=rfl
theorem zcq {b:List UInt8} (hb:b.length=16) (key:List UInt8):jZ (last b key) key=b:=by
 unfold jZ
 rw [KO,yr (YB _),Qn hb]
theorem zcr {b:List UInt8} (hb:b.length=16) (key:List UInt8):last (jZ b key) key=b:=by
 rw [KO]
 unfold jZ
 rw [Qo (zB _ _),yr hb]
theorem Kr (b:List UInt8) (ks:List (List UInt8)) (k:List UInt8):rounds b (ks++[k])=round (rounds b ks) k:=by simp [rounds]
theorem JR (ks:List (List UInt8)):∀ (m:Nat) (b:List UInt8),b.length=16→m+1≤ks.length→Zf ks (m+1) (rounds b ((ks.drop 1).take m))=b
 | 0,b,hb,_=>by simp [rounds,Zf]
 | m+1,b,hb,h=>by
  have e:(ks.drop 1).take (m+1)=(ks.drop 1).take m++[key ks (m+1)]:=by
   rw [List.take_add_one,List.getElem?_drop,Nat.add_comm 1 m,kB (by omega)]
   rfl
  rw [e,Kr,Xo _ _ _ (by omega),show m+1+1 - 1=m+1 by omega,VI (qG _ _ hb),JR ks m b hb (by omega)]
theorem JS (ks:List (List UInt8)):∀ (m:Nat) (b:List UInt8),b.length=16→m+1≤ks.length→rounds (Zf ks (m+1) b) ((ks.drop 1).take m)=b
 | 0,b,hb,_=>by simp [rounds,Zf]
 | m+1,b,hb,h=>by
  have e:(ks.drop 1).take (m+1)=(ks.drop 1).take m++[key ks (m+1)]:=by
   rw [List.take_add_one,List.getElem?_drop,Nat.add_comm 1 m,kB (by omega)]
   rfl
  rw [e,Kr,Xo _ _ _ (by omega),show m+1+1 - 1=m+1 by omega,JS ks m _ (kY _ _) (by omega),VJ hb]
theorem Qq (ks:List (List UInt8)):∀ (m:Nat) (b:List UInt8),b.length=16→(Zf ks m b).length=16
 | 0,b,h=>h
 | 1,b,h=>h
 | m+2,b,h=>by
  unfold Zf
  exact Qq ks (m+1) _ (kY _ _)
theorem zf7 {ks:List (List UInt8)} (hk:2≤ks.length) {b:List UInt8} (hb:b.length=16):dec ks (enc ks b)=b:=by
 unfold dec enc
 rw [zcq (qG _ _ (zB _ _))]
 have:=JR ks (ks.length - 2) (both b (key ks 0)) (zB _ _) (by omega)
 rw [show ks.length - 2+1=ks.length - 1 by omega] at this
 rw [this,yr hb]
theorem zf8 {ks:List (List UInt8)} (hk:2≤ks.length) {b:List UInt8} (hb:b.length=16):enc ks (dec ks b)=b:=by
 unfold dec enc
 rw [yr (Qq _ _ _ (jC _ _))]
 have:=JS ks (ks.length - 2) (jZ b (key ks (ks.length - 1))) (jC _ _) (by omega)
 rw [show ks.length - 2+1=ks.length - 1 by omega] at this
 rw [this,zcr hb]
end Go.AesI
namespace Go.Adi
open Go.Ops Go.Oct Go.Trn Go.Blake Go.Prime Go.Cha Go.Aes Go.AesI
def nat (p:UInt64×UInt64):Nat:=p.1.toNat+18446744073709551616*p.2.toNat
def wd (n:Nat):UInt64×UInt64:=(UInt64.ofNat n,UInt64.ofNat (n / 18446744073709551616))
def xo (b:List UInt8):UInt64×UInt64:=(longL b 0,longL b 8)
def z7 (p:UInt64×UInt64):List UInt8:=zz p.1++zz p.2
def plusW (p q:UInt64×UInt64):UInt64×UInt64:=wd (nat p+nat q)
def qp (p q:UInt64×UInt64):UInt64×UInt64:=wd (nat p+340282366920938463463374607431768211456 - nat q)
theorem zZ (p:UInt64×UInt64):(z7 p).length=16:=by simp [z7,zz]
theorem zag (p:UInt64×UInt64):nat p < 340282366920938463463374607431768211456:=by
 have h1:=p.1.toNat_lt
 have h2:=p.2.toNat_lt
 unfold nat
 omega
theorem zf9 (n:Nat):(wd n).1.toNat=n % 18446744073709551616:=UInt64.toNat_ofNat'
theorem zga (n:Nat):(wd n).2.toNat=n / 18446744073709551616 % 18446744073709551616:=UInt64.toNat_ofNat'
theorem zah (n:Nat):nat (wd n)=n % 340282366920938463463374607431768211456:=by
 unfold nat
 rw [zf9,zga]
 omega
theorem zai (p:UInt64×UInt64):wd (nat p)=p:=by
 have h1:=p.1.toNat_lt
 have h2:=p.2.toNat_lt
 apply Prod.ext
 ·apply UInt64.toNat_inj.1
  rw [zf9]
  unfold nat
  omega
 ·apply UInt64.toNat_inj.1
  rw [zga]
  unfold nat
  omega
theorem wd_eq {n m:Nat} (h:n % 340282366920938463463374607431768211456=m % 340282366920938463463374607431768211456):wd n=wd m:=by
 rw [← zai (wd n),← zai (wd m),zah,zah,h]
theorem JT (p q:UInt64×UInt64):qp (plusW p q) q=p:=by
 have h1:=zag p
 have h2:=zag q
 conv=>rhs;rw [← zai p]
 unfold qp plusW
 rw [zah]
 apply wd_eq
 omega
theorem JU (p q:UInt64×UInt64):plusW (qp p q) q=p:=by
 have h1:=zag p
 have h2:=zag q
 conv=>rhs;rw [← zai p]
 unfold qp plusW
 rw [zah]
 apply wd_eq
 omega
theorem zgb (f:Nat→UInt8) (a:Nat):∀ k,(∀ j,j < k→(f j).toNat=a / 2 ^ (8*j) % 256)→QU f k=a % 2 ^ (8*k)
 | 0,_=>by simp [QU,Nat.mod_one]
 | k+1,h=>by
  unfold QU
  rw [zgb f a k (fun j hj=>h j (by omega)),h k (by omega),show 8*(k+1)=8*k+8 by omega,Nat.pow_add,Nat.mod_mul,Nat.mul_comm (a / _ % 256)]
theorem Ks (n:UInt64) {j:Nat} (h:j < 8):at8 (zz n) j=Xm (yp n (8*j)):=at8_some (by simp [zz,h])
theorem Ws (n:UInt64) (j:Nat):(Xm (yp n (8*j))).toNat=n.toNat / 2 ^ (8*j) % 256:=by
 unfold Xm
 rw [yx]
 exact UInt8.toNat_ofNat'
theorem Wt (b:List UInt8) (at':Nat):(longL b at').toNat=QU (fun k=>at8 b (at'+k)) 8:=XJ _ _ (by omega)
theorem zcs {a b:List UInt8} {i:Nat} (h:i < a.length):at8 (a++b) i=at8 a i:=by simp [at8,List.getD,List.getElem?_append_left h]
theorem Wu {a b:List UInt8} {i:Nat}:at8 (a++b) (a.length+i)=at8 b i:=by
 simp only [at8,List.getD]
 rw [List.getElem?_append_right (by omega)]
 congr 3
 omega
theorem zct (n:UInt64) (a b:List UInt8):longL (a++zz n++b) a.length=n:=by
 apply UInt64.toNat_inj.1
 rw [Wt,zgb _ n.toNat 8 (fun j hj=>by
  rw [List.append_assoc,Wu,zcs (by rw [zK];exact hj),Ks n hj,Ws])]
 exact Nat.mod_eq_of_lt n.toNat_lt
theorem ZP (p:UInt64×UInt64):xo (z7 p)=p:=by
 unfold xo z7
 have h1:=zct p.1 [] (zz p.2)
 have h2:=zct p.2 (zz p.1) []
 rw [List.nil_append,List.length_nil] at h1
 rw [List.append_nil,zK] at h2
 rw [h1,h2]
theorem Xg (b:List UInt8) (at':Nat) {j:Nat} (hj:j < 8):at8 (zz (longL b at')) j=at8 b (at'+j):=by
 apply UInt8.toNat_inj.1
 rw [Ks _ hj,Ws,Wt,QV _ j 8 hj]
theorem ZQ {b:List UInt8} (h:b.length=16):z7 (xo b)=b:=by
 apply List.ext_getElem?
 intro i
 rcases Nat.lt_or_ge i 16 with hi | hi
 ·rw [Oct.at8_get (by rw [zZ];exact hi:i < (z7 (xo b)).length),Oct.at8_get (by omega:i < b.length)]
  congr 1
  unfold z7 xo
  rcases Nat.lt_or_ge i 8 with h8 | h8
  ·rw [zcs (by rw [zK];exact h8),Xg _ _ h8,Nat.zero_add]
  ·obtain ⟨j,rfl⟩:∃ j,i=8+j:=⟨i - 8,by omega⟩
   have e:=Wu (a:=zz (longL b 0)) (b:=zz (longL b 8)) (i:=j)
   rw [zK] at e
   rw [e,Xg _ _ (by omega)]
 ·rw [List.getElem?_eq_none (by rw [zZ];exact hi),List.getElem?_eq_none (by omega)]
def zmp (b:List UInt8) (i:Nat):UInt8:=if i % 4=3 then and8 (at8 b i) 15 else if i % 4=0∧i≠0 then and8 (at8 b i) 252 else at8 b i
def j6 (b:List UInt8):List UInt8:=(List.range 16).map (zmp b)
theorem VK (b:List UInt8):(j6 b).length=16:=by simp [j6]
def vX (r v n:Nat):Nat:=(v+n) % PP*r % PP
def ZR (b:List UInt8):Nat:=(leN b+340282366920938463463374607431768211456) % PP
def JV (b:List UInt8):Nat:=leN (b++[1]++zf (15 - b.length)) % PP
theorem JW (r v n:Nat):vX r v n < PP:=Nat.mod_lt _ (by decide)
def yO (r v:Nat) (d:List UInt8):Nat×List UInt8:=if h:16≤d.length then yO r (vX r v (ZR (d.take 16))) (d.drop 16) else (v,d)
termination_by d.length
decreasing_by simp;omega
theorem Wv {r v:Nat} {d:List UInt8} (h:¬ 16≤d.length):yO r v d=(v,d):=by
 unfold yO
 rw [dif_neg h]
theorem Ww {r v:Nat} {d:List UInt8} (h:16≤d.length):yO r v d=yO r (vX r v (ZR (d.take 16))) (d.drop 16):=by
 conv=>lhs;unfold yO
 rw [dif_pos h]
theorem jV (r:Nat):∀ (n v:Nat) (d:List UInt8),d.length≤n→v < PP→(yO r v d).1 < PP∧(yO r v d).2.length < 16
 | n,v,d,h,hv=>by
  by_cases h16:16≤d.length
  ·rw [Ww h16]
   match n,h with
   | 0,h=>omega
   | n+1,h=>exact jV r n _ _ (by rw [List.length_drop];omega) (JW _ _ _)
  ·rw [Wv h16]
   exact ⟨hv,Nat.lt_of_not_le h16⟩
def qq (r v:Nat) (d:List UInt8):Nat:=if d.length=0 then v else vX r v (JV d)
theorem zhk {r v:Nat} {d:List UInt8} (h:v < PP):qq r v d < PP:=by
 unfold qq
 split
 ·exact h
 ·exact JW _ _ _
def rOf (key:List UInt8):Nat:=leN (j6 key) % PP
theorem zke (key:List UInt8):rOf key < PP:=Nat.mod_lt _ (by decide)
def Za (key:List UInt8):List UInt32:=(List.range 268).map fun i=>yU key (4*i)
theorem VL (key:List UInt8):(Za key).length=268:=by simp [Za]
def Qr (a k b l:UInt32):UInt64:=xP (yI (jI a k)) (yI (jI b l))
def JX (ws:List UInt32) (b:List UInt8) (u p:Nat):UInt64 :=
 zy (Qr (yU b (16*u)) (yR ws (4*u+4*p)) (yU b (16*u+8)) (yR ws (4*u+4*p+2))) (Qr (yU b (16*u+4)) (yR ws (4*u+4*p+1)) (yU b (16*u+12)) (yR ws (4*u+4*p+3)))
def Zr (ws:List UInt32) (b:List UInt8):Nat→List UInt64
 | 0=>[0,0,0,0]
 | u+1=>(List.range 4).map fun p=>zy (at64 (Zr ws b u) p) (JX ws b u p)
theorem jW (ws:List UInt32) (b:List UInt8):∀ u,(Zr ws b u).length=4
 | 0=>rfl
 | u+1=>by simp [Zr]
def nh (ws:List UInt32) (b:List UInt8):List UInt8:=(Zr ws b (b.length / 16)).flatMap zz
theorem qy:∀ l:List UInt64,(l.flatMap zz).length=8*l.length
 | []=>rfl
 | x::l=>by rw [List.flatMap_cons,List.length_append,qy l,zK,List.length_cons];omega
theorem zhl (ws:List UInt32) (b:List UInt8):(nh ws b).length=32:=by
 unfold nh
 rw [qy,jW]
def vY (kt tweak:List UInt8) (n:Nat):UInt64×UInt64 :=
 xo (Z7 (qq (rOf kt) (yO (rOf kt) (yO (rOf kt) 0 (z7 (wd (8*n)))).1 ((yO (rOf kt) 0 (z7 (wd (8*n)))).2++tweak)).1 (yO (rOf kt) (yO (rOf kt) 0 (z7 (wd (8*n)))).1 ((yO (rOf kt) 0 (z7 (wd (8*n)))).2++tweak)).2))
def qz (ws:List UInt32) (r v:Nat) (p d:List UInt8):Nat×List UInt8 :=
 if h:d.length=0 then (v,p) else qz ws r (yO r v (p++nh ws (d.take 1024))).1 (yO r v (p++nh ws (d.take 1024))).2 (d.drop 1024)
termination_by d.length
decreasing_by simp;omega
def vZ (km:List UInt8) (ws:List UInt32) (b:List UInt8):UInt64×UInt64 :=
 xo (Z7 (qq (rOf km) (qz ws (rOf km) 0 [] (kF b 16)).1 (qz ws (rOf km) 0 [] (kF b 16)).2))
structure kV where
 key:List UInt8
 ks:List (List UInt8)
 kt:List UInt8
 km:List UInt8
 ws:List UInt32
def zcu (k:kV) (tweak b:List UInt8):UInt64×UInt64:=plusW (vY k.kt tweak b.length) (vZ k.km k.ws b)
def zaj (key:List UInt8):List UInt8:=jT key (1::zf 23) 12 (zf 1136)
def zkf (key:List UInt8):kV:=⟨key,expand 8 true ((zaj key).take 32),block ((zaj key).drop 32),block ((zaj key).drop 48),Za ((zaj key).drop 64)⟩
def jj (k:kV) (m:UInt64×UInt64) (b:List UInt8):List UInt8:=jT k.key (z7 m++[1]++zf 7) 12 b
theorem YC (k:kV) (m:UInt64×UInt64) (b:List UInt8):(jj k m b).length=b.length:=vy _ _ _ _
theorem Xh (k:kV) (m:UInt64×UInt64) (b:List UInt8):jj k m (jj k m b)=b:=zcj _ _ _ _
def jF (k:kV) (tweak m:List UInt8):UInt64×UInt64:=xo (enc k.ks (z7 (plusW (xo (m.drop (m.length - 16))) (zcu k tweak (m.take (m.length - 16))))))
def XK (k:kV) (tweak m:List UInt8):List UInt8 :=
 jj k (jF k tweak m) (m.take (m.length - 16))++z7 (qp (jF k tweak m) (zcu k tweak (jj k (jF k tweak m) (m.take (m.length - 16)))))
def jG (k:kV) (tweak m:List UInt8):UInt64×UInt64:=plusW (xo (m.drop (m.length - 16))) (zcu k tweak (m.take (m.length - 16)))
def XL (k:kV) (tweak m:List UInt8):List UInt8 :=
 jj k (jG k tweak m) (m.take (m.length - 16))++z7 (qp (xo (dec k.ks (z7 (jG k tweak m)))) (zcu k tweak (jj k (jG k tweak m) (m.take (m.length - 16)))))
theorem zcv (k:kV) (tweak:List UInt8) {m:List UInt8} (h:16≤m.length):(XK k tweak m).length=m.length:=by
 unfold XK
 rw [List.length_append,YC,zZ,List.length_take]
 omega
theorem zcw (k:kV) (tweak:List UInt8) {m:List UInt8} (h:16≤m.length):(XL k tweak m).length=m.length:=by
 unfold XL
 rw [List.length_append,YC,zZ,List.length_take]
 omega
theorem Qs (a:List UInt8) (p:UInt64×UInt64):(a++z7 p).take ((a++z7 p).length - 16)=a:=by
 rw [List.length_append,zZ,Nat.add_sub_cancel,List.take_append_of_le_length (Nat.le_refl _),List.take_length]
theorem zcx (a:List UInt8) (p:UInt64×UInt64):(a++z7 p).drop ((a++z7 p).length - 16)=z7 p:=by
 rw [List.length_append,zZ,Nat.add_sub_cancel,List.drop_append_of_le_length (Nat.le_refl _),List.drop_length,List.nil_append]
theorem zhm (k:kV) (hk:2≤k.ks.length) (tweak:List UInt8) {m:List UInt8} (h:16≤m.length):XL k tweak (XK k tweak m)=m:=by
 have hm:jG k tweak (XK k tweak m)=jF k tweak m:=by
  unfold jG XK
  rw [Qs,zcx,ZP,JU]
 have ht:(XK k tweak m).take ((XK k tweak m).length - 16)=jj k (jF k tweak m) (m.take (m.length - 16)):=by
  unfold XK
  rw [Qs]
 unfold XL
 rw [hm,ht,Xh]
 have h16:(m.drop (m.length - 16)).length=16:=by rw [List.length_drop];omega
 have hb:z7 (qp (xo (dec k.ks (z7 (jF k tweak m)))) (zcu k tweak (m.take (m.length - 16))))=m.drop (m.length - 16):=by
  unfold jF
  rw [ZQ (xJ _ _),zf7 hk (zZ _),ZP,JT,ZQ h16]
 rw [hb,List.take_append_drop]
theorem zhn (k:kV) (hk:2≤k.ks.length) (tweak:List UInt8) {m:List UInt8} (h:16≤m.length):XK k tweak (XL k tweak m)=m:=by
 have hm:jF k tweak (XL k tweak m)=jG k tweak m:=by
  unfold jF XL
  rw [Qs,zcx,ZP,JU,ZQ (kG _ _),zf8 hk (zZ _),ZP]
 have ht:(XL k tweak m).take ((XL k tweak m).length - 16)=jj k (jG k tweak m) (m.take (m.length - 16)):=by
  unfold XL
  rw [Qs]
 unfold XK
 rw [hm,ht,Xh]
 have h16:(m.drop (m.length - 16)).length=16:=by rw [List.length_drop];omega
 have hb:z7 (qp (jG k tweak m) (zcu k tweak (m.take (m.length - 16))))=m.drop (m.length - 16):=by
  unfold jG
  rw [JT,ZQ h16]
 rw [hb,List.take_append_drop]
theorem zkg (key:List UInt8):2≤(zkf key).ks.length:=by
 show 2≤(expand _ _ _).length
 rw [wJ]
 omega
end Go.Adi
namespace Go.Cells
open Go.RowKit
theorem Blk.result2 {P:Program} {w:World} {b n:Nat} {vs:List Value} {ty':TypeId} (h:Blk w b vs ty') {fn:Func} {R:Ending→World→Prop} {a:Act} {p t:Tmp} {ty:TypeId} {v:Value}
  (hf:fn.results=#[.cell p ty,.tmp t]) (hd:a.defers=[]) (hp:a.tmps.getD p undef=.pointer (some ⟨b,0,none⟩)) (ht:a.tmps.getD t undef=v) (hr:Row P ty n) (hn:vs.length=n)
  (k:R (.returned (.tuple #[.agg vs.toArray,v])) w):bodyPost P fn R .ret a w:=by
 obtain ⟨d,hu,hd',hi⟩:=hr.open
 have hrun:(results fn a.tmps).run P w=.ok (.tuple #[.agg vs.toArray,v]) w:=by
  have hp':a.tmps[p]?.getD undef=.pointer (some ⟨b,0,none⟩):=by simpa using hp
  have ht':a.tmps[t]?.getD undef=v:=by simpa using ht
  have h1:=run_loadVar_row (P:=P) w b ty' ty vs.toArray (0,0) d h hu (by cases d <;> simp_all [TypeDesc.isRow]) (by rw [hi];simp [hn])
  simp [results,hf,hp',ht',asAddr,h1]
 exact bodyPost_ret hrun hd k
theorem Blk.wset1 {P:Program} {w:World} {b:Nat} {vs:List Value} {ty':TypeId} (h:Blk w b vs ty') (i:Nat) (v:Value) {ops:Array Oper} {rest:List Oper} {op:Oper} {a:Act} {Q:Exit→Act→World→Prop} {ty:TypeId} {x y:Operand}
  (hgd:op.guard=none) (ho:op.op=.store ty x y) (hx:a.eval x=.pointer (some ⟨b,i,none⟩)) (hy:a.eval y=v) (hs:(P.info? ty).map (·.size)=some 1) (hv:v.cells=#[v]) (h1:v.oneCell'=true) (hi:i < vs.length)
  (k:∀ w',Blk w' b (vs.set i v) ty'→Only b w w'→wpList P ops Q rest (a.put op.dst undef) w'):wpList P ops Q (op::rest) a w :=
 wpList_plain hgd fun _ hK=>h.opset ho hx hy hs hv h1 hi (fun w' hb hd=>hK _ _ (k w' hb hd))
end Go.Cells
namespace Go.Mem
open Go.RowKit Go.Cells Go.Ops
theorem ZN {P:Program} (w:World) (t e:TypeId) (size:Nat) (ht:P.underlying t=some (.slice e)) (hs:(P.info? e).map (·.size)=some size) (ao:Option Addr) (len cap n:Nat) (h:n≤cap) :
  (Instr.slice t (.slice ao len cap) none (some (.int .i64 (n:Int))) none).run P w=.ok (.slice ao n cap) w:=by
 cases hq:P.info? e with
 | none=>rw [hq] at hs;cases hs
 | some x =>
  have hx:x.size=size:=by rw [hq] at hs;simpa using hs
  cases ao with
  | none=>simp [Instr.slice,Instr.sliceBounds,Instr.sliceBound,run_underlying ht,sizeOf,typeInfo,hq,hx,asIntOf,h]
  | some a=>cases a;simp [Instr.slice,Instr.sliceBounds,Instr.sliceBound,run_underlying ht,sizeOf,typeInfo,hq,hx,asIntOf,h,Addr.add]
end Go.Mem
namespace Go.Cells
open Go.RowKit
theorem xZ {P:Program} {w:World} {ops:Array Oper} {rest:List Oper} {o:Oper} {a:Act} {Q:Exit→Act→World→Prop} (t:TypeId) (parts:Array (Nat×Operand)) (vs:List (Nat×Value)) (cells:Array Value)
  (hg:o.guard=none) (hop:o.op=.build t parts) (hp':(parts.toList.map fun p=>(p.1,a.eval p.2))=vs) (hb:P.built t vs=some cells)
  (k:wpList P ops Q rest (a.put o.dst (.agg cells)) w):wpList P ops Q (o::rest) a w:=by
 have hp:(parts.map fun (i,x)=>(i,a.eval x))=vs.toArray:=by
  apply Array.toList_inj.1
  rw [Array.toList_map]
  exact hp'
 refine wpList_plain hg fun K hK=>?_
 have hrun:=run_build (P:=P) w t vs.toArray cells (by simpa using hb)
 unfold Oper.wp
 simp only [execOp,hop,hp,Sem.run_bind,hrun,Result.andThen_ok,Sem.run_pure]
 exact hK _ _ k
end Go.Cells
namespace Go.Proofs.YtjaioajjfiaheaaGreatDoor
open Go.RowKit Go.Mem Go.Ops Go.Cells Go.Oct Go.Gf Go.Trn Go.Aes Go.Ring Go.Ezk Go.Ezh Go.Ezt Go.Ezc Go.CutP Go.Fl
attribute [local irreducible] zE zN zO zM yu
theorem yN (ao:Option Addr) (n cap:Nat) (ks:List (List UInt8)) (w:World) (hn:ks.length=n) (hnb:n≤1099511627776) (hk:yB 16 w ao ks) :
  Calls Tryz.prog 123 #[.slice ao n cap] w fun e w'=>e=.returned (.agg ((plusB ks).map B).toArray)∧Below w.heap.size w w':=by
 have HN:=znq hn
 have HK:=znq hk
 have HS:=znq (St.start w)
 have HZ:=znq (zd 16)
 clear hn hk
 go_enter Tryz.func123,Tryz.ntmps123
 go_wp2_with (refine ze 117 ((zf 16).map B) _ rfl rfl zj rfl ?_)
 intro w1 hb hbel;have HS:=znq (HS.znr.push hb hbel);have hlt1:=hb.lt;clear hb hbel
 go_wp2_with (refine ze 117 ((zf 16).map B) _ rfl rfl zj rfl ?_)
 intro w2 hb hbel;have HS:=znq (HS.znr.push hb hbel);have hlt2:=hb.lt;clear hb hbel
 generalize hbb:w.heap.size=bb at *
 generalize w1.heap.size=br at *
 have HBB:=znq hbb
 clear hbb
 go_wp2
 go_loopw [9] (fun c wr=>∃ (i:Nat) (y:List UInt8),i≤n∧c=.int .i64 i∧Hid (y.length=16)∧Hid ((ks.drop i).foldl both y=plusB ks∧True)∧Hid (St w bb wr [(br,y.map B,117),(bb,(zf 16).map B,117)])) (fun c _=>n - (intOf c).toNat)
 case atStart=>exact ⟨0,zf 16,by omega,rfl,HZ,⟨rfl,trivial⟩,HS⟩
 case round =>
  clear HS
  obtain ⟨i,y,hi,rfl,HY,HE,HS⟩:=hrel
  have HYM:=znq (show (y.map B).length=16 by rw [List.length_map];exact HY.znr)
  by_cases hlt:i < n
  ·have hget:ks[i]? = some (key ks i):=kB (by rw [HN.znr];exact hlt)
   obtain ⟨kb,koff,rfl,hkb,hr⟩:=(HK.znr.below (by rw [HBB.znr];exact HS.znr.bel)).range (by omega) hget
   have HKL:=znq (show (key ks i).length=16 from HK.znr.each _ (List.mem_of_getElem? hget))
   have HKLM:=znq (show ((key ks i).map B).length=16 by rw [List.length_map];exact HKL.znr)
   have HE:=znq (show (ks.drop (i+1)).foldl both (both y (key ks i))=plusB ks∧True from ⟨by
    rw [← HE.znr.1,List.drop_eq_getElem_cons (l:=ks) (i:=i) (by rw [HN.znr];exact hlt),List.foldl_cons]
    congr 2
    have:=List.getElem?_eq_getElem (l:=ks) (i:=i) (by rw [HN.znr];exact hlt)
    rw [hget] at this
    exact Option.some.inj this,trivial⟩)
   have HR:=znq hr
   generalize key ks i=k at *
   clear hget hr
   go_wp2_with (first | (refine wpList_load_mid rfl 117 (.tmp 11) rfl kb (koff+i*16) rfl _ _ HR.znr Tryz.underlying117 rfl (by rw [HKLM.znr];exact zc.2) ?_) | (refine ze 117 ((zf 16).map B) _ rfl rfl zj rfl ?_))
   intro w3 hb hbel;have hz1:=(HS.znr.get 0 rfl).lt;have hz0:=(HS.znr.get 1 rfl).lt;have HS:=znq (HS.znr.push hb hbel);have hlt3:=hb.lt;clear hb hbel
   generalize wr.heap.size=bk at *
   go_wp2_with (refine (HS.znr.get 0 rfl).wstore rfl rfl rfl rfl zc (by simp [zd]) HKLM.znr (zg _) ?_)
   intro w4 hb4 ho4
   have HS:=znq (HS.znr.change 0 hb4 ho4 (by omega) (by simp;omega))
   clear hb4 ho4
   go_wp2
   go_loopw [13] (fun c wr=>∃ (j:Nat) (l:List UInt8),j≤16∧c=.int .i64 j∧Hid (l.length=16)∧Hid (∀ i,i < j→l[i]? = some (ya (at8 y i) (at8 k i)))∧Hid (∀ i,j≤i→l[i]? = y[i]?)∧Hid (St w bb wr [(bk,k.map B,117),(br,l.map B,117),(bb,(zf 16).map B,117)])) (fun c _=>16 - (intOf c).toNat)
   case atStart=>exact ⟨0,y,by omega,rfl,HY,fun i hi=>absurd hi (by omega),fun i _=>rfl,HS⟩
   case round =>
    clear HS
    obtain ⟨j,l,hj,rfl,HLL,HL1,HL2,HS⟩:=hrel
    by_cases hlt2:j < 16
    ·have hd:decide ((j:Int) < 16)=true:=by simp;omega
     have hx:l[j]? = some (at8 y j):=by rw [HL2.znr j (Nat.le_refl _)];exact at8_get (by rw [HY.znr];omega)
     have hc1:=fun (x:zG wr.drew)=>((HS.znr.drew.later x.later).get 1 rfl).cell j _ (zU hx)
     have hc2:=fun (x:zG wr.drew)=>((HS.znr.drew.later x.later).get 0 rfl).cell j _ (zU (at8_get (b:=k) (i:=j) (by rw [HKL.znr];omega)))
     clear hx
     go_wp2_with fail
     refine zn [0,1,2,3,4,5,6,7,8] (by kernel_rfl) (by kernel_rfl) ?_
     rintro w5 rfl
     refine mqR ?_
     clear hc1 hc2
     refine zp rfl rfl (by rfl) (fun K hK=>?_)
     refine (HS.znr.drew.get 1 rfl).opset (v:=B (ya (at8 y j) (at8 k j))) rfl rfl rfl zl rfl rfl (by rw [List.length_map,HLL.znr];omega) (fun w6 hb6 ho6=>hK _ _ ?_)
     clear hK K
     rw [ym] at hb6
     have HS:=znq (HS.znr.drew.change 1 hb6 ho6 (by omega) (by simp;omega))
     clear ho6 hb6
     go_simp
     refine zo ?_
     go_wp2
     go_roundw
     case rel=>exact ⟨j+1,_,by omega,rfl,(by rw [List.length_set];exact HLL.znr),(kO hlt2 HLL.znr HL1.znr HL2.znr).1,(kO hlt2 HLL.znr HL1.znr HL2.znr).2,HS⟩
     case measure=>simp [intOf];omega
    ·obtain rfl:j=16:=by omega
     have hle:=YN HLL.znr HL1.znr
     rw [hle] at HS
     have HS:=znq HS.znr.tail
     clear hle
     go_wp2
     go_roundw
     case rel=>exact ⟨i+1,_,by omega,by go_num,zB _ _,HE,HS⟩
     case measure=>simp [intOf];omega
  ·obtain rfl:i=n:=by omega
   have HE:=znq (show y=plusB ks∧True from ⟨by rw [← HE.znr.1,List.drop_eq_nil_of_le (by rw [HN.znr];omega)];rfl,trivial⟩)
   go_wp2_with (first | (refine (HS.znr.get 0 rfl).wload rfl rfl rfl zc HYM.znr ?_) | (refine (HS.znr.get 1 rfl).wstore rfl rfl rfl rfl zc (by rw [List.length_map];exact zd 16) HYM.znr (zg _) ?_))
   intro w6 hb6 ho6
   have hbel6:=zk HS.znr.bel ho6 (by omega)
   go_wp2
   refine hb6.result rfl rfl rfl zc HYM.znr ⟨by rw [HE.znr.1],?_⟩
   rw [HBB.znr]
   exact hbel6
theorem zcb (ao:Option Addr) (n cap ahead:Nat) (m:List UInt8) (w:World) (hn:m.length=n) (h16:16≤ahead) (ha:ahead≤n) (hc:n≤cap) (hb:n≤1000000) (hl:zr w ao (m.map B)) :
  Calls Tryz.prog 145 #[.slice ao n cap,.int .i64 ahead] w fun e w'=>e=.returned (.agg ((xw m ahead).map B).toArray)∧Below w.heap.size w w':=by
 have HN:=znq hn
 have HL:=znq hl
 have HS:=znq (St.start w)
 have e1:(n:Int) - (ahead:Int)=((n - ahead:Nat):Int):=by omega
 have hf16:fl 16=4625196817309499392:=by decide +kernel
 have HC:=znq (show wC (floatOfInt .f64 ((n - ahead:Nat):Int)) 4625196817309499392 n=some (n - ahead,16) from by rw [← hf16];exact jR (n - ahead) 16 n (by omega) (by omega))
 have HX:=znq (show block ((m.drop (n - ahead)).take 16)=xw m ahead∧True from ⟨by unfold xw;rw [hn],trivial⟩)
 have HXL:=znq (show (xw m ahead).length=16 by unfold xw;exact zA _)
 obtain ⟨z,hz⟩:∃ z,z=n - ahead:=⟨_,rfl⟩
 rw [← hz] at e1 HC HX
 have HZL:=znq (show ((m.drop z).take 16).length=16 by simp;omega)
 clear hn hl hz hf16
 go_enter Tryz.func145,Tryz.ntmps145
 go_wp2_with (refine ze 117 ((zf 16).map B) _ rfl rfl zj rfl ?_)
 intro w1 hb hbel;have HS:=znq (HS.znr.push hb hbel);have hlt1:=hb.lt;clear hb hbel
 generalize hbb:w.heap.size=bb at *
 have HBB:=znq hbb
 clear hbb
 go_wp2_with fail
 refine (zb9 ao n cap m (floatOfInt .f64 (z:Int)) 4625196817309499392 z 16 _ HN.znr hc (by omega) (HL.znr.below (HS.znr.old HBB.znr)) HC.znr).mono ?_
 rintro e w2 ⟨v2,rfl,hown,hbel⟩
 obtain ⟨ao2,cap2,rfl,hc2,_,hl2⟩:=zw hown
 have HS:=znq (HS.znr.later hbel)
 have HL2:=znq hl2
 clear hown hbel hl2
 go_wp2_with fail
 refine (yQ ao2 16 cap2 ((m.drop z).take 16) _ HZL.znr HL2.znr).mono ?_
 rintro e w3 ⟨rfl,hbel⟩
 have HS:=znq (HS.znr.later hbel)
 rw [HX.znr.1]
 clear hbel HL2 hc2
 go_wp2_with (refine (HS.znr.get 0 rfl).wstore rfl rfl rfl rfl zc (by rw [List.length_map];exact zd 16) (by rw [List.length_map];exact HXL.znr) (zg _) ?_)
 intro w4 hb4 ho4
 have hbel4:=zk HS.znr.bel ho4 (Nat.le_refl _)
 go_wp2
 refine hb4.result rfl rfl rfl zc (by rw [List.length_map];exact HXL.znr) ⟨rfl,?_⟩
 rw [HBB.znr]
 exact hbel4
def z4 (pv uv vv:Value) (x y:List UInt8):List Value:=pv::uv::vv::(x.map B++y.map B)
theorem zY {pv uv vv:Value} {x y:List UInt8} (hx:x.length=16) (hy:y.length=16):(z4 pv uv vv x y).length=35:=by simp [z4,hx,hy]
theorem Qe {pv uv vv:Value} {x y:List UInt8} (hp:pv.oneCell'=true) (hu:uv.oneCell'=true) (hv:vv.oneCell'=true):∀ z∈z4 pv uv vv x y,z.oneCell'=true:=by
 intro z hz
 simp only [z4,List.mem_cons,List.mem_append] at hz
 rcases hz with rfl | rfl | rfl | hz | hz
 ·exact hp
 ·exact hu
 ·exact hv
 ·exact zg _ _ hz
 ·exact zg _ _ hz
theorem yG:Row Tryz.prog 181 35:=⟨by kernel_rfl,by kernel_rfl⟩
theorem vq:(Tryz.prog.info? 181).map (·.zero)=some (some (.agg (z4 (.slice none 0 0) (.slice none 0 0) (.slice none 0 0) (zf 16) (zf 16)).toArray)):=by kernel_rfl
theorem VE:(Tryz.prog.info? 212).map (fun i=>(i.zero,i.size,i.bytes))=some (some (.agg ((zf 32).map B).toArray),32,32):=by kernel_rfl
theorem zcc:(Tryz.prog.info? 212).map (fun i=>(i.zero,i.size))=some (some (.agg ((zf 32).map B).toArray),32):=by kernel_rfl
theorem vt:Row Tryz.prog 212 32:=⟨by kernel_rfl,by kernel_rfl⟩
theorem VF:(Tryz.prog.info? 212).map (·.zero)=some (some (.agg ((zf 32).map B).toArray)):=by kernel_rfl
theorem qo:(Tryz.prog.info? 22).map (·.size)=some 1:=by kernel_rfl
theorem JC:(Tryz.prog.info? 179).map (·.size)=some 1:=by kernel_rfl
theorem XD (a b:List UInt8) (ha:a.length=16) (hb:b.length=16):Tryz.prog.built 212 [(0,.agg (a.map B).toArray),(1,.agg (b.map B).toArray)]=some ((a++b).map B).toArray:=by
 obtain ⟨a0,a1,a2,a3,a4,a5,a6,a7,a8,a9,aa,ab,ac,ad,ae,af,rfl⟩:=ZI ha
 obtain ⟨b0,b1,b2,b3,b4,b5,b6,b7,b8,b9,ba,bb,bc,bd,be,bf,rfl⟩:=ZI hb
 kernel_rfl
theorem zhb (a b:List UInt8) (ha:a.length=16) (hb:b.length=16):Tryz.prog.built 181 [(3,.agg (a.map B).toArray),(4,.agg (b.map B).toArray)]=some (z4 (.slice none 0 0) (.slice none 0 0) (.slice none 0 0) a b).toArray:=by
 obtain ⟨a0,a1,a2,a3,a4,a5,a6,a7,a8,a9,aa,ab,ac,ad,ae,af,rfl⟩:=ZI ha
 obtain ⟨b0,b1,b2,b3,b4,b5,b6,b7,b8,b9,ba,bb,bc,bd,be,bf,rfl⟩:=ZI hb
 kernel_rfl
abbrev JD (bb bx:Nat) (ao:Option Addr) (len cap:Nat) (us:Nat→Value):Act:={ tmps:=#[.slice ao len cap,us 1,.pointer (some ⟨bb,0,none⟩),.pointer (some ⟨bx,0,none⟩),us 4,us 5,us 6,us 7,us 8,us 9,us 10,us 11,us 12,us 13,us 14,us 15,us 16,us 17,us 18,us 19,us 20,us 21,us 22,us 23,us 24,us 25,us 26,us 27,us 28,us 29,us 30,us 31,us 32,us 33,us 34,us 35,us 36,us 37,us 38,us 39,us 40,us 41,us 42],defers:=[] }
def Qf (bb:Nat) (X Y bm:List UInt8) (N:Nat) (w:World) (x:Act) (wr:World):Prop :=
 ∃ (us:Nat→Value) (bx:Nat) (ao:Option Addr) (len cap f:Nat) (r:List UInt8) (pv:Value) (ps:y9),x=JD bb bx ao len cap us∧bb < bx∧len≤cap∧32*ps.length+len≤1000000∧len≤f∧Hid (r.length=len)∧Hid (zr w ao (r.map B)) ∧
  Hid (wr.ownsRow (bx+1) 212 32 pv ps.length ((zV ps).map B))∧Hid (St w bb wr [(bx,z4 pv (.slice none 0 0) (.slice none 0 0) X Y,181),(bb,z4 (.slice none 0 0) (.slice none 0 0) (.slice none 0 0) (zf 16) (zf 16),181)]) ∧
  Hid (ps++xj f r=xj N bm∧xm f r=xm N bm)
theorem Qf.intro {bb:Nat} {X Y bm:List UInt8} {N:Nat} {w:World} {x:Act} {wr:World} (bx:Nat) (ao:Option Addr) (len cap f:Nat) (r:List UInt8) (pv:Value) (ps:y9) (hx:x=JD bb bx ao len cap (fun i=>x.tmps.getD i undef)) (h1:bb < bx) (h2:len≤cap) (h3:32*ps.length+len≤1000000) (h4:len≤f) (h5:r.length=len) (h6:zr w ao (r.map B))
  (h7:wr.ownsRow (bx+1) 212 32 pv ps.length ((zV ps).map B)) (h8:St w bb wr [(bx,z4 pv (.slice none 0 0) (.slice none 0 0) X Y,181),(bb,z4 (.slice none 0 0) (.slice none 0 0) (.slice none 0 0) (zf 16) (zf 16),181)])
  (h9:ps++xj f r=xj N bm∧xm f r=xm N bm):Qf bb X Y bm N w x wr:=⟨_,bx,ao,len,cap,f,r,pv,ps,hx,h1,h2,h3,h4,h5,h6,h7,h8,h9⟩
theorem vR:∀ (ps:y9) (p:List UInt8×List UInt8),zV (ps++[p])=zV ps++(p.1++p.2)
 | [],p=>by simp [zV]
 | q::ps,p=>by simp only [List.cons_append,zV,vR ps p,List.append_assoc]
theorem VG {f:Nat} {r:List UInt8} (h:r.length < 32):xj f r=[]∧xm f r=r:=by
 cases f with
 | zero=>exact ⟨rfl,rfl⟩
 | succ f=>unfold xj xm;rw [if_neg (by omega),if_neg (by omega)];exact ⟨rfl,rfl⟩
theorem zcd (ao:Option Addr) (n cap:Nat) (m:List UInt8) (w:World) (hn:m.length=n) (h32:32≤n) (hnb:n≤1000000) (hc:n≤cap) (hl:zr w ao (m.map B)) :
  Calls Tryz.prog 122 #[.slice ao n cap] w fun e w'=>∃ pv ua uc va vc,e=.returned (.agg (z4 pv (.slice ua (z5 m).u.length uc) (.slice va (z5 m).v.length vc) (z5 m).x (z5 m).y).toArray) ∧
   w'.ownsRow w.heap.size 212 32 pv (z5 m).pairs.length ((zV (z5 m).pairs).map B)∧zr w ua ((z5 m).u.map B)∧zr w va ((z5 m).v.map B)∧Below w.heap.size w w':=by
 obtain ⟨i0,hi0,hq0,hq1,hq2⟩:=info_parts VE
 have HI:=znq (And.intro hi0 (And.intro hq0 (And.intro hq1 hq2)))
 have HT:=znq (show (212:TypeId)≠181 by decide)
 clear hi0 hq0 hq1 hq2
 have HN:=znq hn
 have HL:=znq hl
 have HS:=znq (St.start w)
 have HX:=znq (show (xw m 32).length=16 by unfold xw;exact zA _)
 have HY:=znq (show (xw m 16).length=16 by unfold xw;exact zA _)
 have HXE:=znq (show (z5 m).x=xw m 32∧(z5 m).y=xw m 16∧(z5 m).pairs=xj n (m.take (n - 32))∧(z5 m).u=(xm n (m.take (n - 32))).take 16∧(z5 m).v=(xm n (m.take (n - 32))).drop 16 from ⟨rfl,rfl,by subst hn;rfl,by subst hn;rfl,by subst hn;rfl⟩)
 have hbm:=zhb (xw m 32) (xw m 16) HX.znr HY.znr
 obtain ⟨X,hX⟩:∃ X,X=xw m 32:=⟨_,rfl⟩
 obtain ⟨Y,hY⟩:∃ Y,Y=xw m 16:=⟨_,rfl⟩
 obtain ⟨z,hz⟩:∃ z,z=n - 32:=⟨_,rfl⟩
 have HXX:=znq (show xw m 32=X∧True from ⟨hX.symm,trivial⟩)
 have HYY:=znq (show xw m 16=Y∧True from ⟨hY.symm,trivial⟩)
 rw [← hX] at HX
 rw [← hY] at HY
 rw [← hX,← hY] at hbm
 rw [← hX,← hY,← hz] at HXE
 have hzb:z+32=n:=by omega
 have e1:(n:Int) - 32=(z:Int):=by omega
 clear hn hl hX hY hz
 go_enter Tryz.func122,Tryz.ntmps122
 go_wp2_with (refine ze 181 (z4 (.slice none 0 0) (.slice none 0 0) (.slice none 0 0) (zf 16) (zf 16)) _ rfl rfl vq rfl ?_)
 intro w1 hb hbel;have HS:=znq (HS.znr.push hb hbel);have hlt1:=hb.lt;clear hb hbel
 generalize hbb:w.heap.size=bb at *
 have HBB:=znq hbb
 clear hbb
 go_wp2_with fail
 refine yd 0 (Qf bb X Y (m.take z) n w) (fun x _=>X9 (x.tmps.getD 0 undef)) rfl ?_ ?_
 ·simp only [q9]
  go_wp2_with fail
  refine (zcb ao n cap 32 m _ HN.znr (by omega) h32 hc hnb (HL.znr.below (HS.znr.old HBB.znr))).mono ?_
  rintro e w2 ⟨rfl,hbel⟩
  rw [HXX.znr.1]
  have HS:=znq (HS.znr.later hbel)
  clear hbel
  go_wp2_with fail
  refine (zcb ao n cap 16 m _ HN.znr (by omega) (by omega) hc hnb (HL.znr.below (HS.znr.old HBB.znr))).mono ?_
  rintro e w3 ⟨rfl,hbel⟩
  rw [HYY.znr.1]
  have HS:=znq (HS.znr.later hbel)
  clear hbel
  have hz3:bb < w3.heap.size:=(HS.znr.get 0 rfl).lt
  go_wp2_with (first | (refine xZ 181 _ _ _ rfl rfl rfl hbm ?_) | (refine ze 181 (z4 (.slice none 0 0) (.slice none 0 0) (.slice none 0 0) (zf 16) (zf 16)) _ rfl rfl vq rfl ?_))
  intro w4 hb hbel;have HS:=znq (HS.znr.push hb hbel);have hlt4:=hb.lt;clear hb hbel
  have hs0:=fun w=>ZN (P:=Tryz.prog) w 22 5 1 Tryz.underlying22 zl ao n cap z (by omega)
  go_wp2_with (refine (HS.znr.get 0 rfl).wstore rfl rfl rfl (cs:=z4 (.slice none 0 0) (.slice none 0 0) (.slice none 0 0) X Y) rfl yG (zY (zd 16) (zd 16)) (zY HX.znr HY.znr) (Qe rfl rfl rfl) ?_)
  intro w5 hb5 ho5
  have HS:=znq (show St w bb w5 [(w3.heap.size,z4 (.slice none 0 0) (.slice none 0 0) (.slice none 0 0) X Y,181),(bb,z4 (.slice none 0 0) (.slice none 0 0) (.slice none 0 0) (zf 16) (zf 16),181)] from HS.znr.change 0 hb5 ho5 (by omega) (by simp;omega))
  clear hb5 ho5
  go_wp2
  refine Qf.intro w3.heap.size ao z cap n (m.take z) (.slice none 0 0) [] rfl hz3 (by omega) (by simp;omega) (by omega) (by rw [List.length_take,HN.znr];omega) ?_ (vL _ _ _ _) HS.znr ⟨rfl,rfl⟩
  rw [List.map_take]
  exact HL.znr.take _
 ·clear HS hlt1
  rintro x wr ⟨us,bx,ar,len,cr,f,r,pv,ps,rfl,hbx,hlc,hlb,hlf,HR,HLR,HO,HS,HP⟩
  generalize List.take z m=bm at *
  by_cases h:32≤len
  ·obtain ⟨f,rfl⟩:∃ g,f=g+1:=⟨f - 1,by omega⟩
   have hs1:=fun w=>yv (P:=Tryz.prog) w 22 5 1 Tryz.underlying22 zl ar len cr 16 16 rfl (by omega)
   have hs2:=fun w=>yv (P:=Tryz.prog) w 22 5 1 Tryz.underlying22 zl ar len cr 32 32 rfl h
   have d:decide ((len:Int)≥32)=true:=by simp;omega
   have HP:=znq (show (ps++[(block r,block (r.drop 16))])++xj f (r.drop 32)=xj n bm∧xm f (r.drop 32)=xm n bm from by
    have h1:=HP.znr.1
    have h2:=HP.znr.2
    have hr:=HR.znr
    rw [xj,if_pos (by omega)] at h1
    rw [xm,if_pos (by omega)] at h2
    exact ⟨by rw [← h1];simp,h2⟩)
   have hcp:=fun (y:zG wr.drew)=>((HS.znr.drew.later y.later).get 0 rfl).cell 0 _ rfl
   go_wp2_with fail
   refine zn [0,1,2,4,5,3,6,7,8,9,10,11] (by kernel_rfl) (by kernel_rfl) ?_
   rintro w2 rfl
   refine mqR ?_
   clear hcp
   have HS:=znq HS.znr.drew
   have HO:=znq (show wr.drew.ownsRow (bx+1) 212 32 pv ps.length ((zV ps).map B) from HO.znr)
   refine zi rfl rfl (by rfl) (fun K hK=>?_)
   go_simp
   refine (yQ ar len cr r _ HR.znr (HLR.znr.below (HS.znr.old HBB.znr))).mono ?_
   rintro e w5 ⟨rfl,hbel⟩
   have HS:=znq (HS.znr.later hbel)
   have HO:=znq (zm HO.znr hbel)
   go_simp
   refine hK _ _ hbel ?_
   clear hK K hbel
   refine zi rfl rfl (by rfl) (fun K hK=>?_)
   go_simp
   refine (yQ (yy ar cr 16) (len - 16) (cr - 16) (r.drop 16) _ (by rw [List.length_drop,HR.znr]) ((zr.dropA HLR.znr (by rw [HR.znr];exact hlc) 16).below (HS.znr.old HBB.znr))).mono ?_
   rintro e w6 ⟨rfl,hbel⟩
   have HS:=znq (HS.znr.later hbel)
   have HO:=znq (zm HO.znr hbel)
   go_simp
   refine hK _ _ hbel ?_
   clear hK K hbel
   have HB1:=znq (zA r)
   have HB2:=znq (zA (r.drop 16))
   generalize block r=b1 at *
   generalize block (r.drop 16)=b2 at *
   have hbp:=XD b1 b2 HB1.znr HB2.znr
   refine kQ rfl rfl (by rfl) 212 _ [(0,.agg (b1.map B).toArray),(1,.agg (b2.map B).toArray)] _ rfl rfl hbp (fun K hK=>?_)
   go_simp
   refine hK _ ?_
   clear hK K hbp
   have hz6:bx < w6.heap.size:=(HS.znr.get 0 rfl).lt
   refine zi rfl rfl (by rfl) (fun K hK=>?_)
   refine y8 179 212 32 1 _ [b1.map B++b2.map B] rfl rfl Tryz.underlying179 zcc rfl (by omega) rfl (by omega) (by omega) (by simp [HB1.znr,HB2.znr]) ?_
   intro w7 hb7 hbel7
   have HS:=znq (HS.znr.later hbel7)
   have HO:=znq (zm HO.znr hbel7)
   have HN7:=znq (show zr w7 (some ⟨w6.heap.size,0,none⟩) (b1.map B++b2.map B) from by have:=hb7.lies;simpa using this)
   have hz7:bx < w7.heap.size:=(HS.znr.get 0 rfl).lt
   refine hK _ _ hbel7 ?_
   clear hK K hb7 hbel7
   go_simp
   generalize w6.heap.size=bw6 at *
   refine zp rfl rfl (by rfl) (fun K hK=>?_)
   refine wp_append_own _ (.tmp 18) (.tmp 25) 179 rfl (bx+1) 212 i0 _ 32 32 Tryz.underlying179 HI.znr.1 HI.znr.2.1 HI.znr.2.2.1 HI.znr.2.2.2 rfl (by decide) pv ps.length _ rfl HO.znr ⟨bw6,0,none⟩ 1 1 (b1.map B++b2.map B) rfl (by simp [HB1.znr,HB2.znr]) HN7.znr.news (by intro u hu;rcases List.mem_append.1 hu with hu | hu <;> exact zg _ _ hu) (by unfold maxLen;omega) (by omega) (by omega) ?_
   intro v8 w8 hown8 hg8 _
   refine hK _ _ ?_
   clear hK K
   have hbel8:Below (bx+1) w7 w8:=z8 (Below.refl (bx+1) w7) HO.znr hg8 (Nat.le_refl _) (by omega)
   have HS:=znq (HS.znr.low hbel8 (by omega) (by intro e he;simp at he;rcases he with rfl | rfl <;> simp <;> omega))
   have HO:=znq (show w8.ownsRow (bx+1) 212 32 v8 (ps.length+1) ((zV (ps++[(b1,b2)])).map B) from by rw [vR];simpa using hown8)
   clear hown8 hg8 hbel8 HN7
   obtain ⟨a8,c8,rfl,_,_,_⟩:=zw HO.znr
   go_simp
   refine mqR ?_
   refine zp rfl rfl (by rfl) (fun K hK=>?_)
   refine (HS.znr.get 0 rfl).opset (v:=.slice a8 (ps.length+1) c8) (i:=0) rfl rfl rfl JC rfl rfl (by simp [z4]) (fun w9 hb9 ho9=>hK _ _ ?_)
   clear hK K
   have HO:=znq (zu HO.znr (HS.znr.get 0 rfl) HT.znr ho9)
   have HS:=znq (show St w bb w9 [(bx,z4 (.slice a8 (ps.length+1) c8) (.slice none 0 0) (.slice none 0 0) X Y,181),(bb,z4 (.slice none 0 0) (.slice none 0 0) (.slice none 0 0) (zf 16) (zf 16),181)] from HS.znr.change 0 hb9 ho9 (by omega) (by simp;omega))
   clear hb9 ho9
   go_simp
   refine zo ?_
   go_wp2
   refine wp_goto ⟨rfl,Qf.intro bx (yy ar cr 32) (len - 32) (cr - 32) f (r.drop 32) _ (ps++[(b1,b2)]) rfl hbx (by omega) (by simp;omega) (by omega) (by rw [List.length_drop,HR.znr]) (zr.dropA HLR.znr (by rw [HR.znr];exact hlc) 32) (by rw [List.length_append];exact HO.znr) HS.znr HP.znr,?_⟩
   simp [X9];omega
  ·have d:decide ((len:Int)≥32)=false:=by simp;omega
   have hm:∃ ul:Nat,ul=min len 16∧(if (16:Int) < len then (16:Int) else len)=(ul:Int):=⟨_,rfl,by split <;> omega⟩
   obtain ⟨ul,hul,hm⟩:=hm
   have hu1:ul≤16:=by omega
   have hu2:ul≤len:=by omega
   have HU:=znq hul
   clear hul
   have hs1:=fun w=>ZN (P:=Tryz.prog) w 22 5 1 Tryz.underlying22 zl ar len cr ul (by omega)
   have hs2:=fun w=>yv (P:=Tryz.prog) w 22 5 1 Tryz.underlying22 zl ar len cr ul ul rfl (by omega)
   have HP:=znq (show ps=xj n bm∧r=xm n bm from by
    have h1:=HP.znr.1
    have h2:=HP.znr.2
    obtain ⟨e1,e2⟩:=VG (f:=f) (r:=r) (by rw [HR.znr];omega)
    rw [e1] at h1
    rw [e2] at h2
    exact ⟨by simpa using h1,h2⟩)
   go_wp2_with (refine (HS.znr.get 0 rfl).wset1 1 (.slice ar ul cr) rfl rfl rfl rfl qo rfl rfl (by simp [z4]) ?_)
   intro w5 hb5 ho5
   have HO:=znq (zu HO.znr (HS.znr.get 0 rfl) HT.znr ho5)
   have HS:=znq (show St w bb w5 [(bx,z4 pv (.slice ar ul cr) (.slice none 0 0) X Y,181),(bb,z4 (.slice none 0 0) (.slice none 0 0) (.slice none 0 0) (zf 16) (zf 16),181)] from HS.znr.change 0 hb5 ho5 (by omega) (by simp;omega))
   clear hb5 ho5
   have hcu:=(HS.znr.get 0 rfl).cell 1 _ rfl
   go_wp2_with (refine (HS.znr.get 0 rfl).wset1 2 (.slice (yy ar cr ul) (len - ul) (cr - ul)) rfl rfl rfl rfl qo rfl rfl (by simp [z4]) ?_)
   intro w6 hb6 ho6
   have HO:=znq (zu HO.znr (HS.znr.get 0 rfl) HT.znr ho6)
   have HS:=znq (show St w bb w6 [(bx,z4 pv (.slice ar ul cr) (.slice (yy ar cr ul) (len - ul) (cr - ul)) X Y,181),(bb,z4 (.slice none 0 0) (.slice none 0 0) (.slice none 0 0) (zf 16) (zf 16),181)] from HS.znr.change 0 hb6 ho6 (by omega) (by simp;omega))
   clear hb6 ho6 hcu
   obtain ⟨ap,np,cp,hpv,_⟩:∃ ap np cp,pv=.slice ap np cp∧True:=by
    obtain ⟨ap,cp,e,_⟩:=zw HO.znr
    exact ⟨ap,_,cp,e,trivial⟩
   subst hpv
   go_wp2_with (first | (refine (HS.znr.get 0 rfl).wload rfl rfl rfl yG (zY HX.znr HY.znr) ?_) | (refine (HS.znr.get 1 rfl).wstore rfl rfl rfl (cs:=z4 (.slice ap np cp) (.slice ar ul cr) (.slice (yy ar cr ul) (len - ul) (cr - ul)) X Y) rfl yG (zY (zd 16) (zd 16)) (zY HX.znr HY.znr) (Qe rfl rfl rfl) ?_))
   intro w7 hb7 ho7
   have HO:=znq (zu HO.znr (HS.znr.get 1 rfl) HT.znr ho7)
   have hbel7:=zk HS.znr.bel ho7 (Nat.le_refl _)
   have huu:(z5 m).u.length=ul:=by rw [HXE.znr.2.2.2.1,← HP.znr.2,List.length_take,HR.znr,HU.znr];omega
   have hvv:(z5 m).v.length=len - ul:=by rw [HXE.znr.2.2.2.2,← HP.znr.2,List.length_drop,HR.znr];have:=HU.znr;omega
   go_wp2
   refine hb7.result rfl rfl rfl yG (zY HX.znr HY.znr) ⟨.slice ap np cp,ar,cr,yy ar cr ul,cr - ul,?_,?_,?_,?_,by rw [HBB.znr];exact hbel7⟩
   ·rw [huu,hvv,HXE.znr.1,HXE.znr.2.1]
   ·rw [HXE.znr.2.2.1,← HP.znr.1,HBB.znr]
    exact yi HO.znr (by omega)
   ·rw [HXE.znr.2.2.2.1,← HP.znr.2,List.map_take]
    exact HLR.znr.take _
   ·rw [HXE.znr.2.2.2.2,← HP.znr.2]
    have hul:ul=min len 16:=HU.znr
    by_cases h16:len≤16
    ·rw [List.drop_eq_nil_of_le (by rw [HR.znr];exact h16)]
     exact zr.nil _ _
    ·obtain rfl:ul=16:=by omega
     exact zr.dropA HLR.znr (by rw [HR.znr];exact hlc) 16
end Go.Proofs.YtjaioajjfiaheaaGreatDoor

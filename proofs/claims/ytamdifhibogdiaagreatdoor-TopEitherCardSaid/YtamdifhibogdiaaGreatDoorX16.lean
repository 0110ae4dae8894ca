/-
  Texts of this claim, one behind the other.
-/
import Derived.Test.YtamdifhibogdiaaGreatDoorX1
import Derived.Test.YtamdifhibogdiaaGreatDoorX7
import Derived.Test.YtamdifhibogdiaaGreatDoorX9
import Derived.Lib.Hide
set_option linter.unusedVariables false
set_option linter.unusedSimpArgs false
set_option maxHeartbeats 16000000
set_option maxRecDepth 100000
open List renaming getD_cons_succ→KD,getD_cons_zero→J4,length_append→q8,length_cons→uh,length_drop→XQ,length_set→Vo,length_take→Ku,range→uf
open Nat renaming add_mul_mod_self_right→dL,le_mul_of_pos_left→gT,le_refl→xc,lt_trans→mr,mod_eq_of_lt→dw,mod_lt→ma
open UInt32 renaming ofNat→bQ,toNat_ofNat_of_lt'→uy
open UInt64 renaming ofNat→wF,toNat_inj→uL,toNat_ofNat'→bJ,toNat_ofNat_of_lt'→uM
namespace Go.Cha
open Ops Oct Trn
def zf2 (x:UInt32) (n:Nat):UInt32:=ziA (Q3 x n) (Y5 x (32 - n))
structure zac where
 a:UInt32
 b:UInt32
 c:UInt32
 d:UInt32
def q1 (f:zac) (n:Nat):zac:=⟨jI f.a f.b,f.b,f.c,zf2 (y6 f.d (jI f.a f.b)) n⟩
def q2 (f:zac) (n:Nat):zac:=⟨f.a,zf2 (y6 f.b (jI f.c f.d)) n,jI f.c f.d,f.d⟩
def quarter (f:zac):zac:=q2 (q1 (q2 (q1 f 16) 12) 8) 7
def Zp (s:List UInt32) (i j k l:Nat):List UInt32 :=
 let f:=quarter ⟨yR s i,yR s j,yR s k,yR s l⟩
 (((s.set i f.a).set j f.b).set k f.c).set l f.d
theorem QR (s:List UInt32) (i j k l:Nat):(Zp s i j k l).length=s.length:=by simp [Zp]
def jd (by':Nat) (s:List UInt32):Nat→List UInt32
 | 0=>s
 | i+1=>Zp (jd by' s i) i (4+(i+by') % 4) (8+(i+2*by') % 4) (12+(i+3*by') % 4)
theorem qT (by':Nat) (s:List UInt32):∀ i,(jd by' s i).length=s.length
 | 0=>rfl
 | i+1=>by rw [jd,QR,qT by' s i]
def xQ (s:List UInt32):Nat→List UInt32
 | 0=>s
 | r+1=>jd 1 (jd 0 (xQ s r) 4) 4
theorem zio (s:List UInt32):∀ r,(xQ s r).length=s.length
 | 0=>rfl
 | r+1=>by rw [xQ,qT,qT,zio s r]
def j5:List UInt8:=[101,120,112,97,110,100,32,51,50,45,98,121,116,101,32,107]
def wu (key inn:List UInt8) (r:Nat):UInt32 :=
 if r < 4 then yU j5 (4*r) else if r < 8 then yU key (4*(r - 4)) else if r < 12 then yU key (4*(r - 8)+16) else yU inn (4*(r - 12))
def je (key inn:List UInt8):List UInt32:=(uf 16).map (wu key inn)
theorem zjf (key inn:List UInt8):(je key inn).length=16:=by simp [je]
def sI (t s:List UInt32):List UInt32:=(uf 16).map fun i=>jI (yR t i) (yR s i)
theorem wV (t s:List UInt32):(sI t s).length=16:=by simp [sI]
def xi (l:List UInt32):List UInt8:=(l.map nz).flatten
theorem k4:∀ l:List UInt32,(xi l).length=4*l.length
 | []=>rfl
 | x::r=>by
  have:=k4 r
  unfold xi at this ⊢
  rw [List.map_cons,List.flatten_cons,q8,this,uh]
  simp [nz]
  omega
def wW (key inn:List UInt8) (rounds:Nat):List UInt8:=xi (sI (xQ (je key inn) (rounds / 2)) (je key inn))
theorem wX (key inn:List UInt8) (rounds:Nat):(wW key inn rounds).length=64:=by rw [wW,k4,wV]
def jw (key inn:List UInt8) (rounds:Nat):List UInt8 :=
 let t:=xQ (je key inn) (rounds / 2)
 xi (t.take 4)++xi (t.drop 12)
theorem wY (key inn:List UInt8) (rounds:Nat):(jw key inn rounds).length=32:=by
 simp [jw,k4,zio,zjf]
def kr (key ng:List UInt8) (rounds:Nat) (many:Nat):List UInt8:=wW (jw key (ng.take 16) rounds) (zz (wF many)++ng.drop 16) rounds
def xa (key ng:List UInt8) (rounds:Nat) (many:Nat) (b:List UInt8):List UInt8 :=
 if h:b.length=0 then [] else nX b (kr key ng rounds many)++xa key ng rounds (many+1) (b.drop 64)
termination_by b.length
decreasing_by simp;omega
def jT (key ng:List UInt8) (rounds:Nat) (b:List UInt8):List UInt8:=xa key ng rounds 0 b
theorem mW (a b:List UInt8):(nX a b).length=min a.length b.length:=by simp [nX]
theorem qE (key ng:List UInt8) (rounds many:Nat):(kr key ng rounds many).length=64:=wX _ _ _
theorem jf (key ng:List UInt8) (rounds:Nat):∀ (n many:Nat) (b:List UInt8),b.length≤n→(xa key ng rounds many b).length=b.length
 | n,many,b,h=>by
  unfold xa
  by_cases h0:b.length=0
  ·rw [dif_pos h0,h0];rfl
  ·rw [dif_neg h0,q8,mW,qE]
   match n,h with
   | 0,h=>omega
   | n+1,h =>
    rw [jf key ng rounds n (many+1) (b.drop 64) (by rw [XQ];omega),XQ]
    omega
theorem vy (key ng:List UInt8) (rounds:Nat) (b:List UInt8):(jT key ng rounds b).length=b.length:=jf _ _ _ _ _ _ (xc _)
theorem jU (key ng:List UInt8) (rounds many:Nat):xa key ng rounds many []=[]:=by
 unfold xa
 simp
end Go.Cha
namespace Go.pI
open Ops Oct Blake Trn
theorem yH (a:UInt64):(xk a 67108863).toNat=a.toNat % 67108864:=by
 unfold xk
 rw [UInt64.toNat_and]
 show a.toNat &&& 67108863=_
 exact Nat.and_two_pow_sub_one_eq_mod _ 26
theorem yx (a:UInt64) (n:Nat):(yp a n).toNat=a.toNat / 2 ^ n:=by
 unfold yp
 exact uM (Nat.lt_of_le_of_lt (Nat.div_le_self _ _) a.toNat_lt)
theorem xg (a b:UInt64) (h:a.toNat+b.toNat < 18446744073709551616):(zy a b).toNat=a.toNat+b.toNat:=by
 unfold zy
 rw [UInt64.toNat_add]
 exact dw h
theorem Yy (a b:UInt64) (h:a.toNat*b.toNat < 18446744073709551616):(xP a b).toNat=a.toNat*b.toNat:=by
 unfold xP
 rw [UInt64.toNat_mul]
 exact dw h
def PP:Nat:=1361129467683753853853498429727072845819
def xA (l:List UInt64):Nat:=(at64 l 0).toNat+67108864*(at64 l 1).toNat+4503599627370496*(at64 l 2).toNat+302231454903657293676544*(at64 l 3).toNat+20282409603651670423947251286016*(at64 l 4).toNat
def q6 (l:List UInt64):Nat→List UInt64×UInt64
 | 0=>(l,0)
 | i+1=>((q6 l i).1.set i (xk (zy (at64 (q6 l i).1 i) (q6 l i).2) 67108863),yp (zy (at64 (q6 l i).1 i) (q6 l i).2) 26)
def carried (l:List UInt64):List UInt64:=(q6 l 5).1.set 0 (zy (at64 (q6 l 5).1 0) (xP 5 (q6 l 5).2))
theorem vT (l:List UInt64):∀ i,(q6 l i).1.length=l.length
 | 0=>rfl
 | i+1=>by rw [q6,Vo,vT l i]
theorem vU (l:List UInt64):(carried l).length=l.length:=by rw [carried,Vo,vT]
def Zq (l:List UInt64):Prop:=l.length=5∧∀ i,i < 5→(at64 l i).toNat < 1152921504606846976
def vV (l:List UInt64):Prop:=l.length=5∧∀ i,i < 5→(at64 l i).toNat < 67108864
theorem zck {α:Type} {l:List α} (h:l.length=5):∃ a0 a1 a2 a3 a4,l=[a0,a1,a2,a3,a4]:=by
 match l,h with
 | [a0,a1,a2,a3,a4],_=>exact ⟨a0,a1,a2,a3,a4,rfl⟩
theorem vV.loose {l:List UInt64} (h:vV l):Zq l:=⟨h.1,fun i hi=>mr (h.2 i hi) (by decide)⟩
theorem JJ (a0 a1 a2 a3 a4:UInt64):∃ x1 x2 x3 x4,x1=zy a1 (yp (zy a0 0) 26)∧x2=zy a2 (yp x1 26)∧x3=zy a3 (yp x2 26)∧x4=zy a4 (yp x3 26) ∧
  carried [a0,a1,a2,a3,a4]=[zy (xk (zy a0 0) 67108863) (xP 5 (yp x4 26)),xk x1 67108863,xk x2 67108863,xk x3 67108863,xk x4 67108863] :=
 ⟨_,_,_,_,rfl,rfl,rfl,rfl,rfl⟩
theorem vA {l:List UInt64} (h:Zq l):∃ c,xA (carried l)+c*PP=xA l∧c < 68719476736∧(∀ i,0 < i→i < 5→(at64 (carried l) i).toNat < 67108864)∧(at64 (carried l) 0).toNat < 67108864+5*c∧Zq (carried l):=by
 obtain ⟨a0,a1,a2,a3,a4,rfl⟩:=zck h.1
 have h0:a0.toNat < 1152921504606846976:=h.2 0 (by omega)
 have h1:a1.toNat < 1152921504606846976:=h.2 1 (by omega)
 have h2:a2.toNat < 1152921504606846976:=h.2 2 (by omega)
 have h3:a3.toNat < 1152921504606846976:=h.2 3 (by omega)
 have h4:a4.toNat < 1152921504606846976:=h.2 4 (by omega)
 obtain ⟨x1,x2,x3,x4,e1,e2,e3,e4,hc⟩:=JJ a0 a1 a2 a3 a4
 have f0:(zy a0 0).toNat=a0.toNat:=by rw [xg _ _ (by simp;omega)];rfl
 have f1:x1.toNat=a1.toNat+a0.toNat / 67108864:=by
  rw [e1,xg,yx,f0]
  rw [yx,f0];omega
 have f2:x2.toNat=a2.toNat+x1.toNat / 67108864:=by
  rw [e2,xg,yx]
  rw [yx];omega
 have f3:x3.toNat=a3.toNat+x2.toNat / 67108864:=by
  rw [e3,xg,yx]
  rw [yx];omega
 have f4:x4.toNat=a4.toNat+x3.toNat / 67108864:=by
  rw [e4,xg,yx]
  rw [yx];omega
 have s4:(yp x4 26).toNat=x4.toNat / 67108864:=yx _ _
 have m5:(xP 5 (yp x4 26)).toNat=5*(x4.toNat / 67108864):=by
  rw [Yy,s4];rfl
  rw [s4];show 5*_ < _;omega
 have g0:(zy (xk (zy a0 0) 67108863) (xP 5 (yp x4 26))).toNat=a0.toNat % 67108864+5*(x4.toNat / 67108864):=by
  rw [xg,yH,f0,m5]
  rw [yH,f0,m5];omega
 rw [hc]
 refine ⟨x4.toNat / 67108864,?_,by omega,?_,?_,rfl,?_⟩
 ·simp only [xA,at64,J4,KD,g0,yH,PP]
  omega
 ·intro i hi0 hi
  match i,hi0,hi with
  | 1,_,_=>simp only [at64,J4,KD,yH];omega
  | 2,_,_=>simp only [at64,J4,KD,yH];omega
  | 3,_,_=>simp only [at64,J4,KD,yH];omega
  | 4,_,_=>simp only [at64,J4,KD,yH];omega
 ·simp only [at64,J4,g0];omega
 ·intro i hi
  match i,hi with
  | 0,_=>simp only [at64,J4,g0];omega
  | 1,_=>simp only [at64,J4,KD,yH];omega
  | 2,_=>simp only [at64,J4,KD,yH];omega
  | 3,_=>simp only [at64,J4,KD,yH];omega
  | 4,_=>simp only [at64,J4,KD,yH];omega
theorem VH {l:List UInt64} (h:vV l):carried l=l:=by
 obtain ⟨a0,a1,a2,a3,a4,rfl⟩:=zck h.1
 have h0:a0.toNat < 67108864:=h.2 0 (by omega)
 have h1:a1.toNat < 67108864:=h.2 1 (by omega)
 have h2:a2.toNat < 67108864:=h.2 2 (by omega)
 have h3:a3.toNat < 67108864:=h.2 3 (by omega)
 have h4:a4.toNat < 67108864:=h.2 4 (by omega)
 have add0:∀ x:UInt64,zy x 0=x:=fun x=>UInt64.add_zero x
 have zgB:∀ x:UInt64,x.toNat < 67108864→yp x 26=0:=fun x hx=>uL.1 (by rw [yx];show _=0;omega)
 have zgC:∀ x:UInt64,x.toNat < 67108864→xk x 67108863=x:=fun x hx=>uL.1 (by rw [yH];omega)
 obtain ⟨x1,x2,x3,x4,e1,e2,e3,e4,hc⟩:=JJ a0 a1 a2 a3 a4
 have f1:x1=a1:=by rw [e1,add0,zgB _ h0,add0]
 have f2:x2=a2:=by rw [e2,f1,zgB _ h1,add0]
 have f3:x3=a3:=by rw [e3,f2,zgB _ h2,add0]
 have f4:x4=a4:=by rw [e4,f3,zgB _ h3,add0]
 rw [hc,f1,f2,f3,f4,zgB _ h4,add0,zgC _ h0,zgC _ h1,zgC _ h2,zgC _ h3,zgC _ h4]
 rw [show xP 5 0=0 from rfl,add0]
instance (l:List UInt64):Decidable (∀ i,i < 5→(at64 l i).toNat < 67108864):=inferInstance
def meas (l:List UInt64):Nat:=2*xA l+if (∀ i,i < 5→(at64 l i).toNat < 67108864) then 0 else 1
theorem zhe {l:List UInt64} (h:Zq l) (hne:carried l≠l):meas (carried l) < meas l:=by
 obtain ⟨c,h1,h2,h3,h4,h5⟩:=vA h
 unfold meas
 by_cases hc:c=0
 ·subst hc
  have hv:xA (carried l)=xA l:=by simpa using h1
  have ht:∀ i,i < 5→(at64 (carried l) i).toNat < 67108864:=by
   intro i hi
   by_cases e:i=0
   ·subst e;simpa using h4
   ·exact h3 i (by omega) hi
  have hn:¬ ∀ i,i < 5→(at64 l i).toNat < 67108864:=fun hall=>hne (VH ⟨h.1,hall⟩)
  rw [if_pos ht,if_neg hn,hv]
  omega
 ·have hp:PP≤c*PP:=gT _ (by omega)
  have hpp:1≤PP:=by decide
  split <;> split <;> omega
theorem QS {l:List UInt64} (h:Zq l) (he:carried l=l):vV l:=by
 obtain ⟨c,h1,h2,h3,h4,h5⟩:=vA h
 rw [he] at h1 h3 h4
 have hc:c=0:=by
  rcases Nat.eq_zero_or_pos c with h | h
  ·exact h
  ·have hp:PP≤c*PP:=gT _ h
   have hpp:1≤PP:=by decide
   omega
 subst hc
 refine ⟨h.1,fun i hi=>?_⟩
 by_cases e:i=0
 ·subst e;simpa using h4
 ·exact h3 i (by omega) hi
theorem zcl {l:List UInt64} (h:Zq l):xA (carried l) % PP=xA l % PP:=by
 obtain ⟨c,h1,_⟩:=vA h
 rw [← h1,dL]
def numOf (n:Nat):List UInt32:=[bQ (n % 67108864),bQ (n / 67108864 % 67108864),bQ (n / 4503599627370496 % 67108864),bQ (n / 302231454903657293676544 % 67108864),bQ (n / 20282409603651670423947251286016 % 67108864)]
def Qi (l:List UInt64):List UInt32:=[yX (at64 l 0),yX (at64 l 1),yX (at64 l 2),yX (at64 l 3),yX (at64 l 4)]
def sN (l:List UInt64):List UInt64:=if (at64 l 1=67108863∧at64 l 2=67108863∧at64 l 3=67108863∧at64 l 4=67108863)∧67108858 < (at64 l 0).toNat then [wk (at64 l 0) 67108859,0,0,0,0] else l
theorem Ko {l:List UInt64} (h:vV l):Qi l=numOf (xA l):=by
 obtain ⟨a0,a1,a2,a3,a4,rfl⟩:=zck h.1
 have h0:a0.toNat < 67108864:=h.2 0 (by omega)
 have h1:a1.toNat < 67108864:=h.2 1 (by omega)
 have h2:a2.toNat < 67108864:=h.2 2 (by omega)
 have h3:a3.toNat < 67108864:=h.2 3 (by omega)
 have h4:a4.toNat < 67108864:=h.2 4 (by omega)
 simp only [Qi,numOf,xA,yX,at64,J4,KD]
 congr 1
 ·congr 1;omega
 congr 1
 ·congr 1;omega
 congr 1
 ·congr 1;omega
 congr 1
 ·congr 1;omega
 congr 1
 ·congr 1;omega
theorem QT {l:List UInt64} (h:vV l):Qi (sN l)=numOf (xA l % PP):=by
 obtain ⟨a0,a1,a2,a3,a4,rfl⟩:=zck h.1
 have h0:a0.toNat < 67108864:=h.2 0 (by omega)
 have h1:a1.toNat < 67108864:=h.2 1 (by omega)
 have h2:a2.toNat < 67108864:=h.2 2 (by omega)
 have h3:a3.toNat < 67108864:=h.2 3 (by omega)
 have h4:a4.toNat < 67108864:=h.2 4 (by omega)
 unfold sN
 by_cases hc:(at64 [a0,a1,a2,a3,a4] 1=67108863∧at64 [a0,a1,a2,a3,a4] 2=67108863∧at64 [a0,a1,a2,a3,a4] 3=67108863∧at64 [a0,a1,a2,a3,a4] 4=67108863)∧67108858 < (at64 [a0,a1,a2,a3,a4] 0).toNat
 ·rw [if_pos hc]
  simp only [at64,J4,KD] at hc ⊢
  obtain ⟨⟨rfl,rfl,rfl,rfl⟩,h5⟩:=hc
  have hs:(wk a0 67108859).toNat=a0.toNat - 67108859:=by
   unfold wk
   exact UInt64.toNat_sub_of_le _ _ (by rw [UInt64.le_iff_toNat_le];show 67108859≤a0.toNat;omega)
  have hm:(67108863:UInt64).toNat=67108863:=rfl
  have hv:xA [a0,67108863,67108863,67108863,67108863] % PP=a0.toNat - 67108859:=by
   simp only [xA,at64,J4,KD,hm,PP]
   omega
  have ht:vV [wk a0 67108859,0,0,0,0]:=by
   refine ⟨rfl,fun i hi=>?_⟩
   match i,hi with
   | 0,_=>simp only [at64,J4,hs];omega
   | 1,_=>exact (by decide:(0:UInt64).toNat < 67108864)
   | 2,_=>exact (by decide:(0:UInt64).toNat < 67108864)
   | 3,_=>exact (by decide:(0:UInt64).toNat < 67108864)
   | 4,_=>exact (by decide:(0:UInt64).toNat < 67108864)
  have hv2:xA [wk a0 67108859,0,0,0,0]=a0.toNat - 67108859:=by
   have hz:(0:UInt64).toNat=0:=rfl
   simp only [xA,at64,J4,KD,hs,hz]
   omega
  rw [Ko ht,hv,hv2]
 ·rw [if_neg hc,Ko h]
  congr 1
  symm
  apply dw
  simp only [at64,J4,KD] at hc
  by_cases e:a1.toNat=67108863∧a2.toNat=67108863∧a3.toNat=67108863∧a4.toNat=67108863
  ·have h5:¬ 67108858 < a0.toNat:=fun h6=>hc ⟨⟨uL.1 e.1,uL.1 e.2.1,uL.1 e.2.2.1,uL.1 e.2.2.2⟩,h6⟩
   simp only [xA,at64,J4,KD,PP]
   omega
  ·simp only [xA,at64,J4,KD,PP]
   omega
end Go.pI
namespace Go.pI
open Ops Oct Blake Trn
def xq (l:List UInt32):List UInt64:=[yI (yR l 0),yI (yR l 1),yI (yR l 2),yI (yR l 3),yI (yR l 4)]
theorem kJ (x:UInt32):(yI x).toNat=x.toNat:=by
 unfold yI
 exact uM (mr x.toNat_lt (by decide))
theorem qI (n:Nat):vV (xq (numOf n)):=by
 refine ⟨rfl,fun i hi=>?_⟩
 match i,hi with
 | 0,_=>show (yI _).toNat < _;rw [kJ,yR,numOf,J4,uy (by show _ < 4294967296;omega)];omega
 | 1,_=>show (yI _).toNat < _;rw [kJ,yR,numOf,KD,J4,uy (by show _ < 4294967296;omega)];omega
 | 2,_=>show (yI _).toNat < _;rw [kJ,yR,numOf,KD,KD,J4,uy (by show _ < 4294967296;omega)];omega
 | 3,_=>show (yI _).toNat < _;rw [kJ,yR,numOf,KD,KD,KD,J4,uy (by show _ < 4294967296;omega)];omega
 | 4,_=>show (yI _).toNat < _;rw [kJ,yR,numOf,KD,KD,KD,KD,J4,uy (by show _ < 4294967296;omega)];omega
theorem kS {n:Nat} (h:n < 1361129467683753853853498429727072845824):xA (xq (numOf n))=n:=by
 have e0:∀ m:Nat,(bQ (m % 67108864)).toNat=m % 67108864:=fun m=>uy (by show _ < 4294967296;omega)
 simp only [xA,xq,numOf,at64,yR,J4,KD,kJ,e0]
 omega
def zcm (a b:List UInt64):List UInt64:=[zy (at64 a 0) (at64 b 0),zy (at64 a 1) (at64 b 1),zy (at64 a 2) (at64 b 2),zy (at64 a 3) (at64 b 3),zy (at64 a 4) (at64 b 4)]
theorem zez {a b:List UInt64} (ha:vV a) (hb:vV b):Zq (zcm a b)∧xA (zcm a b)=xA a+xA b:=by
 have e:∀ i,i < 5→(zy (at64 a i) (at64 b i)).toNat=(at64 a i).toNat+(at64 b i).toNat:=fun i hi=>xg _ _ (by have:=ha.2 i hi;have:=hb.2 i hi;omega)
 constructor
 ·refine ⟨rfl,fun i hi=>?_⟩
  have h1:=ha.2 i hi
  have h2:=hb.2 i hi
  have h3:=e i hi
  match i,hi with
  | 0,_=>show (zy _ _).toNat < _;omega
  | 1,_=>show (zy _ _).toNat < _;omega
  | 2,_=>show (zy _ _).toNat < _;omega
  | 3,_=>show (zy _ _).toNat < _;omega
  | 4,_=>show (zy _ _).toNat < _;omega
 ·have e0:=e 0 (by omega);have e1:=e 1 (by omega);have e2:=e 2 (by omega);have e3:=e 3 (by omega);have e4:=e 4 (by omega)
  have hd:∀ x0 x1 x2 x3 x4:UInt64,xA [x0,x1,x2,x3,x4]=x0.toNat+67108864*x1.toNat+4503599627370496*x2.toNat+302231454903657293676544*x3.toNat+20282409603651670423947251286016*x4.toNat:=fun _ _ _ _ _=>rfl
  unfold zcm
  rw [hd,e0,e1,e2,e3,e4]
  unfold xA
  omega
def zS (a b:List UInt64) (i j:Nat):UInt64:=if 5≤i+j then xP (xP (at64 a i) (at64 b j)) 5 else xP (at64 a i) (at64 b j)
def zf3 (a b w:List UInt64) (i j:Nat):List UInt64:=w.set ((i+j) % 5) (zy (at64 w ((i+j) % 5)) (zS a b i j))
def sZ (a b w:List UInt64) (i:Nat):Nat→List UInt64
 | 0=>w
 | j+1=>zf3 a b (sZ a b w i j) i j
def pz (a b w:List UInt64):Nat→List UInt64
 | 0=>w
 | i+1=>sZ a b (pz a b w i) i 5
theorem zad (a b w:List UInt64) (i j:Nat):(zf3 a b w i j).length=w.length:=by simp [zf3]
theorem Yz (a b w:List UInt64) (i:Nat):∀ j,(sZ a b w i j).length=w.length
 | 0=>rfl
 | j+1=>by rw [sZ,zad,Yz a b w i j]
theorem wZ (a b w:List UInt64):∀ i,(pz a b w i).length=w.length
 | 0=>rfl
 | i+1=>by rw [pz,Yz,wZ a b w i]
theorem zhf {a b:List UInt64} (ha:vV a) (hb:vV b) {i j:Nat} (hi:i < 5) (hj:j < 5):(zS a b i j).toNat=(if 5≤i+j then 5 else 1)*((at64 a i).toNat*(at64 b j).toNat)∧(at64 a i).toNat*(at64 b j).toNat≤4503599627370496:=by
 have h1:=ha.2 i hi
 have h2:=hb.2 j hj
 have hm:(at64 a i).toNat*(at64 b j).toNat≤67108864*67108864:=Nat.mul_le_mul (by omega) (by omega)
 have hp:(xP (at64 a i) (at64 b j)).toNat=(at64 a i).toNat*(at64 b j).toNat:=Yy _ _ (by omega)
 refine ⟨?_,by omega⟩
 unfold zS
 split
 ·rw [Yy _ _ (by rw [hp];show _*5 < _;omega),hp]
  show _*5=_
  omega
 ·rw [hp];omega
attribute [local irreducible] zS zy in
theorem zgD (a b:List UInt64) (w0 w1 w2 w3 w4:UInt64):sZ a b [w0,w1,w2,w3,w4] 0 5=[zy w0 (zS a b 0 0),zy w1 (zS a b 0 1),zy w2 (zS a b 0 2),zy w3 (zS a b 0 3),zy w4 (zS a b 0 4)]:=rfl
attribute [local irreducible] zS zy in
theorem zgE (a b:List UInt64) (w0 w1 w2 w3 w4:UInt64):sZ a b [w0,w1,w2,w3,w4] 1 5=[zy w0 (zS a b 1 4),zy w1 (zS a b 1 0),zy w2 (zS a b 1 1),zy w3 (zS a b 1 2),zy w4 (zS a b 1 3)]:=rfl
attribute [local irreducible] zS zy in
theorem zgF (a b:List UInt64) (w0 w1 w2 w3 w4:UInt64):sZ a b [w0,w1,w2,w3,w4] 2 5=[zy w0 (zS a b 2 3),zy w1 (zS a b 2 4),zy w2 (zS a b 2 0),zy w3 (zS a b 2 1),zy w4 (zS a b 2 2)]:=rfl
attribute [local irreducible] zS zy in
theorem zgG (a b:List UInt64) (w0 w1 w2 w3 w4:UInt64):sZ a b [w0,w1,w2,w3,w4] 3 5=[zy w0 (zS a b 3 2),zy w1 (zS a b 3 3),zy w2 (zS a b 3 4),zy w3 (zS a b 3 0),zy w4 (zS a b 3 1)]:=rfl
attribute [local irreducible] zS zy in
theorem zgH (a b:List UInt64) (w0 w1 w2 w3 w4:UInt64):sZ a b [w0,w1,w2,w3,w4] 4 5=[zy w0 (zS a b 4 1),zy w1 (zS a b 4 2),zy w2 (zS a b 4 3),zy w3 (zS a b 4 4),zy w4 (zS a b 4 0)]:=rfl
theorem zhg (a b:List UInt64):pz a b [0,0,0,0,0] 5=[zy (zy (zy (zy (zy 0 (zS a b 0 0)) (zS a b 1 4)) (zS a b 2 3)) (zS a b 3 2)) (zS a b 4 1),zy (zy (zy (zy (zy 0 (zS a b 0 1)) (zS a b 1 0)) (zS a b 2 4)) (zS a b 3 3)) (zS a b 4 2),zy (zy (zy (zy (zy 0 (zS a b 0 2)) (zS a b 1 1)) (zS a b 2 0)) (zS a b 3 4)) (zS a b 4 3),zy (zy (zy (zy (zy 0 (zS a b 0 3)) (zS a b 1 2)) (zS a b 2 1)) (zS a b 3 0)) (zS a b 4 4),zy (zy (zy (zy (zy 0 (zS a b 0 4)) (zS a b 1 3)) (zS a b 2 2)) (zS a b 3 1)) (zS a b 4 0)]:=by
 rw [pz,pz,pz,pz,pz,pz,zgD,zgE,zgF,zgG,zgH]
theorem zgI {x0 x1 x2 x3 x4:UInt64} (h0:x0.toNat≤22517998136852480) (h1:x1.toNat≤22517998136852480) (h2:x2.toNat≤22517998136852480) (h3:x3.toNat≤22517998136852480) (h4:x4.toNat≤22517998136852480) :
  (zy (zy (zy (zy (zy 0 x0) x1) x2) x3) x4).toNat=x0.toNat+x1.toNat+x2.toNat+x3.toNat+x4.toNat:=by
 have z:(0:UInt64).toNat=0:=rfl
 have e0:(zy 0 x0).toNat=x0.toNat:=by rw [xg _ _ (by omega),z];omega
 have e1:(zy (zy 0 x0) x1).toNat=x0.toNat+x1.toNat:=by rw [xg _ _ (by omega),e0]
 have e2:(zy (zy (zy 0 x0) x1) x2).toNat=x0.toNat+x1.toNat+x2.toNat:=by rw [xg _ _ (by omega),e1]
 have e3:(zy (zy (zy (zy 0 x0) x1) x2) x3).toNat=x0.toNat+x1.toNat+x2.toNat+x3.toNat:=by rw [xg _ _ (by omega),e2]
 rw [xg _ _ (by omega),e3]
theorem zcn {a b:List UInt64} (ha:vV a) (hb:vV b):Zq (pz a b [0,0,0,0,0] 5)∧xA (pz a b [0,0,0,0,0] 5) % PP=xA a*xA b % PP:=by
 have T:=fun i j (hi:i < 5) (hj:j < 5)=>zhf ha hb hi hj
 have bound:∀ i j,i < 5→j < 5→(zS a b i j).toNat≤22517998136852480:=by
  intro i j hi hj
  obtain ⟨h1,h2⟩:=T i j hi hj
  rw [h1]
  split <;> omega
 have s0:=zgI (bound 0 0 (by omega) (by omega)) (bound 1 4 (by omega) (by omega)) (bound 2 3 (by omega) (by omega)) (bound 3 2 (by omega) (by omega)) (bound 4 1 (by omega) (by omega))
 have s1:=zgI (bound 0 1 (by omega) (by omega)) (bound 1 0 (by omega) (by omega)) (bound 2 4 (by omega) (by omega)) (bound 3 3 (by omega) (by omega)) (bound 4 2 (by omega) (by omega))
 have s2:=zgI (bound 0 2 (by omega) (by omega)) (bound 1 1 (by omega) (by omega)) (bound 2 0 (by omega) (by omega)) (bound 3 4 (by omega) (by omega)) (bound 4 3 (by omega) (by omega))
 have s3:=zgI (bound 0 3 (by omega) (by omega)) (bound 1 2 (by omega) (by omega)) (bound 2 1 (by omega) (by omega)) (bound 3 0 (by omega) (by omega)) (bound 4 4 (by omega) (by omega))
 have s4:=zgI (bound 0 4 (by omega) (by omega)) (bound 1 3 (by omega) (by omega)) (bound 2 2 (by omega) (by omega)) (bound 3 1 (by omega) (by omega)) (bound 4 0 (by omega) (by omega))
 have t00:(zS a b 0 0).toNat=((at64 a 0).toNat*(at64 b 0).toNat):=by rw [(T 0 0 (by omega) (by omega)).1];simp
 have t01:(zS a b 0 1).toNat=((at64 a 0).toNat*(at64 b 1).toNat):=by rw [(T 0 1 (by omega) (by omega)).1];simp
 have t02:(zS a b 0 2).toNat=((at64 a 0).toNat*(at64 b 2).toNat):=by rw [(T 0 2 (by omega) (by omega)).1];simp
 have t03:(zS a b 0 3).toNat=((at64 a 0).toNat*(at64 b 3).toNat):=by rw [(T 0 3 (by omega) (by omega)).1];simp
 have t04:(zS a b 0 4).toNat=((at64 a 0).toNat*(at64 b 4).toNat):=by rw [(T 0 4 (by omega) (by omega)).1];simp
 have t10:(zS a b 1 0).toNat=((at64 a 1).toNat*(at64 b 0).toNat):=by rw [(T 1 0 (by omega) (by omega)).1];simp
 have t11:(zS a b 1 1).toNat=((at64 a 1).toNat*(at64 b 1).toNat):=by rw [(T 1 1 (by omega) (by omega)).1];simp
 have t12:(zS a b 1 2).toNat=((at64 a 1).toNat*(at64 b 2).toNat):=by rw [(T 1 2 (by omega) (by omega)).1];simp
 have t13:(zS a b 1 3).toNat=((at64 a 1).toNat*(at64 b 3).toNat):=by rw [(T 1 3 (by omega) (by omega)).1];simp
 have t14:(zS a b 1 4).toNat=5*((at64 a 1).toNat*(at64 b 4).toNat):=by rw [(T 1 4 (by omega) (by omega)).1];simp
 have t20:(zS a b 2 0).toNat=((at64 a 2).toNat*(at64 b 0).toNat):=by rw [(T 2 0 (by omega) (by omega)).1];simp
 have t21:(zS a b 2 1).toNat=((at64 a 2).toNat*(at64 b 1).toNat):=by rw [(T 2 1 (by omega) (by omega)).1];simp
 have t22:(zS a b 2 2).toNat=((at64 a 2).toNat*(at64 b 2).toNat):=by rw [(T 2 2 (by omega) (by omega)).1];simp
 have t23:(zS a b 2 3).toNat=5*((at64 a 2).toNat*(at64 b 3).toNat):=by rw [(T 2 3 (by omega) (by omega)).1];simp
 have t24:(zS a b 2 4).toNat=5*((at64 a 2).toNat*(at64 b 4).toNat):=by rw [(T 2 4 (by omega) (by omega)).1];simp
 have t30:(zS a b 3 0).toNat=((at64 a 3).toNat*(at64 b 0).toNat):=by rw [(T 3 0 (by omega) (by omega)).1];simp
 have t31:(zS a b 3 1).toNat=((at64 a 3).toNat*(at64 b 1).toNat):=by rw [(T 3 1 (by omega) (by omega)).1];simp
 have t32:(zS a b 3 2).toNat=5*((at64 a 3).toNat*(at64 b 2).toNat):=by rw [(T 3 2 (by omega) (by omega)).1];simp
 have t33:(zS a b 3 3).toNat=5*((at64 a 3).toNat*(at64 b 3).toNat):=by rw [(T 3 3 (by omega) (by omega)).1];simp
 have t34:(zS a b 3 4).toNat=5*((at64 a 3).toNat*(at64 b 4).toNat):=by rw [(T 3 4 (by omega) (by omega)).1];simp
 have t40:(zS a b 4 0).toNat=((at64 a 4).toNat*(at64 b 0).toNat):=by rw [(T 4 0 (by omega) (by omega)).1];simp
 have t41:(zS a b 4 1).toNat=5*((at64 a 4).toNat*(at64 b 1).toNat):=by rw [(T 4 1 (by omega) (by omega)).1];simp
 have t42:(zS a b 4 2).toNat=5*((at64 a 4).toNat*(at64 b 2).toNat):=by rw [(T 4 2 (by omega) (by omega)).1];simp
 have t43:(zS a b 4 3).toNat=5*((at64 a 4).toNat*(at64 b 3).toNat):=by rw [(T 4 3 (by omega) (by omega)).1];simp
 have t44:(zS a b 4 4).toNat=5*((at64 a 4).toNat*(at64 b 4).toNat):=by rw [(T 4 4 (by omega) (by omega)).1];simp
 have hd:∀ x0 x1 x2 x3 x4:UInt64,xA [x0,x1,x2,x3,x4]=x0.toNat+67108864*x1.toNat+4503599627370496*x2.toNat+302231454903657293676544*x3.toNat+20282409603651670423947251286016*x4.toNat:=fun _ _ _ _ _=>rfl
 rw [zhg]
 refine ⟨⟨rfl,fun i hi=>?_⟩,?_⟩
 ·match i,hi with
  | 0,_=>show (zy _ _).toNat < _;rw [s0];have:=bound 0 0 (by omega) (by omega);have:=bound 1 4 (by omega) (by omega);have:=bound 2 3 (by omega) (by omega);have:=bound 3 2 (by omega) (by omega);have:=bound 4 1 (by omega) (by omega);omega
  | 1,_=>show (zy _ _).toNat < _;rw [s1];have:=bound 0 1 (by omega) (by omega);have:=bound 1 0 (by omega) (by omega);have:=bound 2 4 (by omega) (by omega);have:=bound 3 3 (by omega) (by omega);have:=bound 4 2 (by omega) (by omega);omega
  | 2,_=>show (zy _ _).toNat < _;rw [s2];have:=bound 0 2 (by omega) (by omega);have:=bound 1 1 (by omega) (by omega);have:=bound 2 0 (by omega) (by omega);have:=bound 3 4 (by omega) (by omega);have:=bound 4 3 (by omega) (by omega);omega
  | 3,_=>show (zy _ _).toNat < _;rw [s3];have:=bound 0 3 (by omega) (by omega);have:=bound 1 2 (by omega) (by omega);have:=bound 2 1 (by omega) (by omega);have:=bound 3 0 (by omega) (by omega);have:=bound 4 4 (by omega) (by omega);omega
  | 4,_=>show (zy _ _).toNat < _;rw [s4];have:=bound 0 4 (by omega) (by omega);have:=bound 1 3 (by omega) (by omega);have:=bound 2 2 (by omega) (by omega);have:=bound 3 1 (by omega) (by omega);have:=bound 4 0 (by omega) (by omega);omega
 ·rw [hd,s0,s1,s2,s3,s4]
  unfold xA
  rw [t00,t01,t02,t03,t04,t10,t11,t12,t13,t14,t20,t21,t22,t23,t24,t30,t31,t32,t33,t34,t40,t41,t42,t43,t44]
  generalize (at64 a 0).toNat=a0
  generalize (at64 b 0).toNat=b0
  generalize (at64 a 1).toNat=a1
  generalize (at64 b 1).toNat=b1
  generalize (at64 a 2).toNat=a2
  generalize (at64 b 2).toNat=b2
  generalize (at64 a 3).toNat=a3
  generalize (at64 b 3).toNat=b3
  generalize (at64 a 4).toNat=a4
  generalize (at64 b 4).toNat=b4
  have key:(a0+67108864*a1+4503599627370496*a2+302231454903657293676544*a3+20282409603651670423947251286016*a4)*(b0+67108864*b1+4503599627370496*b2+302231454903657293676544*b3+20282409603651670423947251286016*b4)=((a0*b0+5*(a1*b4)+5*(a2*b3)+5*(a3*b2)+5*(a4*b1))+67108864*(a0*b1+a1*b0+5*(a2*b4)+5*(a3*b3)+5*(a4*b2))+4503599627370496*(a0*b2+a1*b1+a2*b0+5*(a3*b4)+5*(a4*b3))+302231454903657293676544*(a0*b3+a1*b2+a2*b1+a3*b0+5*(a4*b4))+20282409603651670423947251286016*(a0*b4+a1*b3+a2*b2+a3*b1+a4*b0))+((a1*b4+a2*b3+a3*b2+a4*b1)+67108864*(a2*b4+a3*b3+a4*b2)+4503599627370496*(a3*b4+a4*b3)+302231454903657293676544*(a4*b4))*PP:=by
   unfold PP
   grind
  rw [key,dL]
theorem qU (a:UInt64) (n:Nat):(xf a n).toNat=a.toNat*2 ^ n % 18446744073709551616:=by
 unfold xf
 exact bJ
theorem jx (a b:UInt64) (k:Nat) (ha:a.toNat < 2 ^ k) (hb:b.toNat % 2 ^ k=0):(wi a b).toNat=a.toNat+b.toNat:=by
 unfold wi
 rw [UInt64.toNat_or]
 obtain ⟨q,hq⟩:∃ q,b.toNat=2 ^ k*q:=⟨b.toNat / 2 ^ k,by have:=Nat.div_add_mod b.toNat (2 ^ k);omega⟩
 rw [hq,Nat.or_comm,← Nat.two_pow_add_eq_or_of_lt ha,Nat.add_comm]
def ofL (lo hi:UInt64) (high:UInt32):List UInt64:=[xk lo 67108863,xk (yp lo 26) 67108863,xk (wi (yp lo 52) (xf hi 12)) 67108863,xk (yp hi 14) 67108863,wi (yp hi 40) (xf (yI high) 24)]
theorem zj9 (lo hi:UInt64) (high:UInt32) (hh:high.toNat≤1):Zq (ofL lo hi high)∧xA (ofL lo hi high)=lo.toNat+18446744073709551616*hi.toNat+340282366920938463463374607431768211456*high.toNat:=by
 have hl:=lo.toNat_lt
 have hi':=hi.toNat_lt
 have p2:(wi (yp lo 52) (xf hi 12)).toNat=lo.toNat / 4503599627370496+hi.toNat*4096 % 18446744073709551616:=by
  rw [jx _ _ 12 (by rw [yx];show _ / 4503599627370496 < 4096;omega) (by rw [qU];show _*4096 % 18446744073709551616 % 4096=0;omega),yx,qU]
 have p4:(wi (yp hi 40) (xf (yI high) 24)).toNat=hi.toNat / 1099511627776+high.toNat*16777216:=by
  have e:(xf (yI high) 24).toNat=high.toNat*16777216:=by
   rw [qU,kJ]
   show _*16777216 % _=_
   omega
  rw [jx _ _ 24 (by rw [yx];show _ / 1099511627776 < 16777216;omega) (by rw [e];show _*16777216 % 16777216=0;omega),yx,e]
 have q0:(xk lo 67108863).toNat=lo.toNat % 67108864:=yH _
 have q1:(xk (yp lo 26) 67108863).toNat=lo.toNat / 67108864 % 67108864:=by rw [yH,yx]
 have q2:(xk (wi (yp lo 52) (xf hi 12)) 67108863).toNat=(lo.toNat / 4503599627370496+hi.toNat*4096 % 18446744073709551616) % 67108864:=by rw [yH,p2]
 have q3:(xk (yp hi 14) 67108863).toNat=hi.toNat / 16384 % 67108864:=by rw [yH,yx]
 refine ⟨⟨rfl,fun i hi2=>?_⟩,?_⟩
 ·match i,hi2 with
  | 0,_=>show (xk _ _).toNat < _;omega
  | 1,_=>show (xk _ _).toNat < _;omega
  | 2,_=>show (xk _ _).toNat < _;omega
  | 3,_=>show (xk _ _).toNat < _;omega
  | 4,_=>show (wi _ _).toNat < _;omega
 ·have hd:∀ x0 x1 x2 x3 x4:UInt64,xA [x0,x1,x2,x3,x4]=x0.toNat+67108864*x1.toNat+4503599627370496*x2.toNat+302231454903657293676544*x3.toNat+20282409603651670423947251286016*x4.toNat:=fun _ _ _ _ _=>rfl
  unfold ofL
  rw [hd,q0,q1,q2,q3,p4]
  omega
def zf4 (w:List UInt64):UInt64:=wi (wi (at64 w 0) (xf (at64 w 1) 26)) (xf (at64 w 2) 52)
def zf5 (w:List UInt64):UInt64:=wi (wi (yp (at64 w 2) 12) (xf (at64 w 3) 14)) (xf (at64 w 4) 40)
theorem zka {w:List UInt64} (h:vV w):zf4 w=wF (xA w)∧zf5 w=wF (xA w / 18446744073709551616):=by
 have h0:=h.2 0 (by omega)
 have h1:=h.2 1 (by omega)
 have h2:=h.2 2 (by omega)
 have h3:=h.2 3 (by omega)
 have h4:=h.2 4 (by omega)
 have s1:(xf (at64 w 1) 26).toNat=(at64 w 1).toNat*67108864:=by rw [qU];show _*67108864 % _=_;omega
 have s2:(xf (at64 w 2) 52).toNat=(at64 w 2).toNat*4503599627370496 % 18446744073709551616:=by rw [qU]
 have s3:(xf (at64 w 3) 14).toNat=(at64 w 3).toNat*16384:=by rw [qU];show _*16384 % _=_;omega
 have s4:(xf (at64 w 4) 40).toNat=(at64 w 4).toNat*1099511627776 % 18446744073709551616:=by rw [qU]
 have s5:(yp (at64 w 2) 12).toNat=(at64 w 2).toNat / 4096:=yx _ _
 have o1:(wi (at64 w 0) (xf (at64 w 1) 26)).toNat=(at64 w 0).toNat+(at64 w 1).toNat*67108864:=by
  rw [jx _ _ 26 (by show _ < 67108864;exact h0) (by rw [s1];show _*67108864 % 67108864=0;omega),s1]
 have o2:(wi (yp (at64 w 2) 12) (xf (at64 w 3) 14)).toNat=(at64 w 2).toNat / 4096+(at64 w 3).toNat*16384:=by
  rw [jx _ _ 14 (by rw [s5];show _ < 16384;omega) (by rw [s3];show _*16384 % 16384=0;omega),s3,s5]
 constructor
 ·apply uL.1
  unfold zf4
  rw [jx _ _ 52 (by rw [o1];show _ < 4503599627370496;omega) (by rw [s2];show _ % 18446744073709551616 % 4503599627370496=0;omega),o1,s2,bJ]
  unfold xA
  show _=_ % 18446744073709551616
  omega
 ·apply uL.1
  unfold zf5
  rw [jx _ _ 40 (by rw [o2];show _ < 1099511627776;omega) (by rw [s4];show _ % 18446744073709551616 % 1099511627776=0;omega),o2,s4,bJ]
  unfold xA
  show _=_ % 18446744073709551616
  omega
def leN (b:List UInt8):Nat:=(pJ b 0).toNat+18446744073709551616*(pJ b 8).toNat
def Z7 (n:Nat):List UInt8:=zz (wF n)++zz (wF (n / 18446744073709551616))
theorem YA (n:Nat):(Z7 n).length=16:=by simp [Z7,zz]
end Go.pI
namespace Go.zkV
open Ops Oct Gf Trn Aes Ezt
end Go.zkV
namespace Go.Adi
open Ops Oct Trn Blake pI Cha Aes zkV
def nat (p:UInt64×UInt64):Nat:=p.1.toNat+18446744073709551616*p.2.toNat
def wd (n:Nat):UInt64×UInt64:=(wF n,wF (n / 18446744073709551616))
def xo (b:List UInt8):UInt64×UInt64:=(pJ b 0,pJ b 8)
def z7 (p:UInt64×UInt64):List UInt8:=zz p.1++zz p.2
def nY (p q:UInt64×UInt64):UInt64×UInt64:=wd (nat p+nat q)
def qp (p q:UInt64×UInt64):UInt64×UInt64:=wd (nat p+340282366920938463463374607431768211456 - nat q)
theorem zZ (p:UInt64×UInt64):(z7 p).length=16:=by simp [z7,zz]
theorem XM (n:Nat):(wd n).1.toNat=n % 18446744073709551616:=bJ
theorem Qj (n:Nat):(wd n).2.toNat=n / 18446744073709551616 % 18446744073709551616:=bJ
def zmp (b:List UInt8) (i:Nat):UInt8:=if i % 4=3 then rE (at8 b i) 15 else if i % 4=0∧i≠0 then rE (at8 b i) 252 else at8 b i
def j6 (b:List UInt8):List UInt8:=(uf 16).map (zmp b)
theorem VK (b:List UInt8):(j6 b).length=16:=by simp [j6]
def vX (r v n:Nat):Nat:=(v+n) % PP*r % PP
def ZR (b:List UInt8):Nat:=(leN b+340282366920938463463374607431768211456) % PP
def JV (b:List UInt8):Nat:=leN (b++[1]++zf (15 - b.length)) % PP
theorem JW (r v n:Nat):vX r v n < PP:=ma _ (by decide)
def yO (r v:Nat) (d:List UInt8):Nat×List UInt8:=if h:16≤d.length then yO r (vX r v (ZR (d.take 16))) (d.drop 16) else (v,d)
termination_by d.length
decreasing_by simp;omega
theorem Wv {r v:Nat} {d:List UInt8} (h:¬ 16≤d.length):yO r v d=(v,d):=by
 unfold yO
 rw [dif_neg h]
theorem Ww {r v:Nat} {d:List UInt8} (h:16≤d.length):yO r v d=yO r (vX r v (ZR (d.take 16))) (d.drop 16):=by
 conv=>lhs;unfold yO
 rw [dif_pos h]
theorem jV (r:Nat):∀ (n v:Nat) (d:List UInt8),d.length≤n→v < PP→(yO r v d).1 < PP∧(yO r v d).2.length < 16
 | n,v,d,h,hv=>by
  by_cases h16:16≤d.length
  ·rw [Ww h16]
   match n,h with
   | 0,h=>omega
   | n+1,h=>exact jV r n _ _ (by rw [XQ];omega) (JW _ _ _)
  ·rw [Wv h16]
   exact ⟨hv,Nat.lt_of_not_le h16⟩
def qq (r v:Nat) (d:List UInt8):Nat:=if d.length=0 then v else vX r v (JV d)
theorem zhk {r v:Nat} {d:List UInt8} (h:v < PP):qq r v d < PP:=by
 unfold qq
 split
 ·exact h
 ·exact JW _ _ _
def rOf (key:List UInt8):Nat:=leN (j6 key) % PP
theorem zke (key:List UInt8):rOf key < PP:=ma _ (by decide)
def Za (key:List UInt8):List UInt32:=(uf 268).map fun i=>yU key (4*i)
theorem VL (key:List UInt8):(Za key).length=268:=by simp [Za]
def Qr (a k b l:UInt32):UInt64:=xP (yI (jI a k)) (yI (jI b l))
def JX (ws:List UInt32) (b:List UInt8) (u p:Nat):UInt64 :=
 zy (Qr (yU b (16*u)) (yR ws (4*u+4*p)) (yU b (16*u+8)) (yR ws (4*u+4*p+2))) (Qr (yU b (16*u+4)) (yR ws (4*u+4*p+1)) (yU b (16*u+12)) (yR ws (4*u+4*p+3)))
def Zr (ws:List UInt32) (b:List UInt8):Nat→List UInt64
 | 0=>[0,0,0,0]
 | u+1=>(uf 4).map fun p=>zy (at64 (Zr ws b u) p) (JX ws b u p)
theorem jW (ws:List UInt32) (b:List UInt8):∀ u,(Zr ws b u).length=4
 | 0=>rfl
 | u+1=>by simp [Zr]
def nh (ws:List UInt32) (b:List UInt8):List UInt8:=(Zr ws b (b.length / 16)).flatMap zz
theorem qy:∀ l:List UInt64,(l.flatMap zz).length=8*l.length
 | []=>rfl
 | x::l=>by rw [List.flatMap_cons,q8,qy l,zK,uh];omega
theorem zhl (ws:List UInt32) (b:List UInt8):(nh ws b).length=32:=by
 unfold nh
 rw [qy,jW]
def vY (kt mU:List UInt8) (n:Nat):UInt64×UInt64 :=
 xo (Z7 (qq (rOf kt) (yO (rOf kt) (yO (rOf kt) 0 (z7 (wd (8*n)))).1 ((yO (rOf kt) 0 (z7 (wd (8*n)))).2++mU)).1 (yO (rOf kt) (yO (rOf kt) 0 (z7 (wd (8*n)))).1 ((yO (rOf kt) 0 (z7 (wd (8*n)))).2++mU)).2))
def qz (ws:List UInt32) (r v:Nat) (p d:List UInt8):Nat×List UInt8 :=
 if h:d.length=0 then (v,p) else qz ws r (yO r v (p++nh ws (d.take 1024))).1 (yO r v (p++nh ws (d.take 1024))).2 (d.drop 1024)
termination_by d.length
decreasing_by simp;omega
def vZ (km:List UInt8) (ws:List UInt32) (b:List UInt8):UInt64×UInt64 :=
 xo (Z7 (qq (rOf km) (qz ws (rOf km) 0 [] (kF b 16)).1 (qz ws (rOf km) 0 [] (kF b 16)).2))
structure kV where
 key:List UInt8
 ks:List (List UInt8)
 kt:List UInt8
 km:List UInt8
 ws:List UInt32
def Xe (k:kV) (mU b:List UInt8):UInt64×UInt64:=nY (vY k.kt mU b.length) (vZ k.km k.ws b)
def zaj (key:List UInt8):List UInt8:=jT key (1::zf 23) 12 (zf 1136)
def zkf (key:List UInt8):kV:=⟨key,expand 8 true ((zaj key).take 32),block ((zaj key).drop 32),block ((zaj key).drop 48),Za ((zaj key).drop 64)⟩
def jj (k:kV) (m:UInt64×UInt64) (b:List UInt8):List UInt8:=jT k.key (z7 m++[1]++zf 7) 12 b
theorem YC (k:kV) (m:UInt64×UInt64) (b:List UInt8):(jj k m b).length=b.length:=vy _ _ _ _
def jF (k:kV) (mU m:List UInt8):UInt64×UInt64:=xo (enc k.ks (z7 (nY (xo (m.drop (m.length - 16))) (Xe k mU (m.take (m.length - 16))))))
def XK (k:kV) (mU m:List UInt8):List UInt8 :=
 jj k (jF k mU m) (m.take (m.length - 16))++z7 (qp (jF k mU m) (Xe k mU (jj k (jF k mU m) (m.take (m.length - 16)))))
def jG (k:kV) (mU m:List UInt8):UInt64×UInt64:=nY (xo (m.drop (m.length - 16))) (Xe k mU (m.take (m.length - 16)))
def XL (k:kV) (mU m:List UInt8):List UInt8 :=
 jj k (jG k mU m) (m.take (m.length - 16))++z7 (qp (xo (dec k.ks (z7 (jG k mU m)))) (Xe k mU (jj k (jG k mU m) (m.take (m.length - 16)))))
theorem zcv (k:kV) (mU:List UInt8) {m:List UInt8} (h:16≤m.length):(XK k mU m).length=m.length:=by
 unfold XK
 rw [q8,YC,zZ,Ku]
 omega
theorem zcw (k:kV) (mU:List UInt8) {m:List UInt8} (h:16≤m.length):(XL k mU m).length=m.length:=by
 unfold XL
 rw [q8,YC,zZ,Ku]
 omega
theorem zkg (key:List UInt8):2≤(zkf key).ks.length:=by
 show 2≤(expand _ _ _).length
 rw [wJ]
 omega
end Go.Adi
namespace Go.Hct
open Ops Oct Trn Aes zkV Adi
open Go.Ezt (plusB xz vF YP yr kg ZF)
def upR (w:UInt64×UInt64):UInt64×UInt64:=(qf (xf w.1 1) (yp w.2 63),qf (qf (xf w.2 1) (yp w.1 63)) (xP (yp w.2 63) 13979173243358019584))
def zcB (w:UInt64×UInt64):UInt64×UInt64:=(qf (yp w.1 1) (xf w.2 63),qf (yp w.2 1) (xP (xk w.1 1) 16212958658533785600))
def zcR (w:UInt64×UInt64) (i:Nat):UInt64:=if i < 64 then xk (yp w.1 i) 1 else xk (yp w.2 (i - 64)) 1
def rY (a b:UInt64×UInt64) (f:UInt64):UInt64×UInt64:=(qf a.1 (xP f b.1),qf a.2 (xP f b.2))
def zgc (x y:UInt64×UInt64):Nat→UInt64×UInt64
 | 0=>(0,0)
 | i+1=>zcB (rY (zgc x y i) x (zcR y i))
def zgM (x y:UInt64×UInt64):UInt64×UInt64:=zgc x y 128
def Qt (h:List UInt8):Nat→UInt64×UInt64
 | 0=>zgM (xo h) (1,0)
 | k+1=>upR (Qt h k)
def atP (t:List (UInt64×UInt64)) (i:Nat):UInt64×UInt64:=t.getD i (0,0)
def jX (h:List UInt8):Nat→List (UInt64×UInt64)
 | 0=>List.replicate 16 (0,0)
 | m+1=>(jX h m).set (m+1) (rY (atP (jX h m) (m+1 - 2 ^ (m+1).log2)) (Qt h (m+1).log2) 1)
def zcy (h:List UInt8):List (UInt64×UInt64):=jX h 15
theorem ZS (h:List UInt8):∀ m,(jX h m).length=16
 | 0=>by simp [jX]
 | m+1=>by rw [jX,Vo,ZS h m]
def zcz (t:List (UInt64×UInt64)) (s:UInt64×UInt64) (n:UInt8):UInt64×UInt64:=rY (upR (upR (upR (upR s)))) (atP t n.toNat) 1
def JY (t:List (UInt64×UInt64)) (a:List UInt8):Nat→UInt64×UInt64
 | 0=>(0,0)
 | i+1=>zcz t (zcz t (JY t a i) (rF (at8 a (15 - i)) 4)) (rE (at8 a (15 - i)) 15)
def zcK (t:List (UInt64×UInt64)) (a:List UInt8):List UInt8:=z7 (JY t a 16)
theorem YD (t:List (UInt64×UInt64)) (a:List UInt8):(zcK t a).length=16:=zZ _
def jq (t:List (UInt64×UInt64)) (v b:List UInt8):List UInt8:=if h:b.length=0 then v else jq t (zcK t (block (nX v b))) (b.drop 16)
termination_by b.length
decreasing_by simp;omega
theorem Wx (t:List (UInt64×UInt64)) (v:List UInt8):jq t v []=v:=by unfold jq;simp
theorem JZ {t:List (UInt64×UInt64)} {v b:List UInt8} (h:b.length≠0):jq t v b=jq t (zcK t (block (nX v b))) (b.drop 16):=by
 conv=>lhs;unfold jq
 rw [dif_neg h]
theorem ZT (t:List (UInt64×UInt64)):∀ (n:Nat) (v b:List UInt8),b.length≤n→v.length=16→(jq t v b).length=16
 | n,v,b,h,hv=>by
  by_cases h0:b.length=0
  ·rw [List.eq_nil_of_length_eq_zero h0,Wx];exact hv
  ·rw [JZ h0]
   match n,h with
   | 0,h=>omega
   | n+1,h=>exact ZT t n _ _ (by rw [XQ];omega) (YD _ _)
def kD (n:Nat) (kind:UInt64):List UInt8:=z7 (wi (xf (wF n) 4) kind,yp (wF n) 60)
def kE (mU m:List UInt8):List UInt8:=if m.length % 16=0 then kD mU.length 2++kF mU 16++m else kD mU.length 3++kF mU 16++qv m 1 16
def nN (h mU m:List UInt8):List UInt8:=jq (zcy h) (zf 16) (kF (kE mU m) 16)
theorem nK (h mU m:List UInt8):(nN h mU m).length=16:=ZT _ _ _ _ (xc _) (zd 16)
def zak (start:List UInt8) (i:Nat):List UInt8:=(uf 16).map fun j=>if j < 8 then ya (at8 start j) (at8 (zz (wF i)) j) else at8 start j
def j7 (ks:List (List UInt8)) (start:List UInt8) (i:Nat):List UInt8:=enc ks (zak start i)
theorem Zb (ks:List (List UInt8)) (start:List UInt8) (i:Nat):(j7 ks start i).length=16:=xJ _ _
def xS (ks:List (List UInt8)) (start b:List UInt8):List UInt8:=(uf b.length).map fun j=>ya (at8 b j) (at8 (j7 ks start (1+j / 16)) (j % 16))
theorem jH (ks:List (List UInt8)) (start b:List UInt8):(xS ks start b).length=b.length:=by simp [xS]
structure ziq where
 ks:List (List UInt8)
 h:List UInt8
 l:List UInt8
def J0 (n:Nat) (long:Bool) (key:List UInt8):ziq:=⟨expand n long key,enc (expand n long key) (zf 16),enc (expand n long key) (1::zf 15)⟩
def Zc (k:ziq) (mU m:List UInt8):List UInt8:=plusB [block (m.take 16),nN k.h mU (m.drop 16)]
def zoj (k:ziq) (mU m two:List UInt8):List UInt8 :=
 plusB [two,nN k.h mU (xS k.ks (plusB [Zc k mU m,two,k.l]) (m.drop 16))]++xS k.ks (plusB [Zc k mU m,two,k.l]) (m.drop 16)
def Qk (k:ziq) (mU m:List UInt8):List UInt8:=zoj k mU m (enc k.ks (Zc k mU m))
def Ql (k:ziq) (mU m:List UInt8):List UInt8:=zoj k mU m (dec k.ks (Zc k mU m))
theorem mO (a b:List UInt8):(plusB [a,b]).length=16:=zB _ _
theorem Qu (k:ziq) (mU m two:List UInt8) (h:16≤m.length):(zoj k mU m two).length=m.length:=by
 unfold zoj
 rw [q8,mO,jH,XQ]
 omega
theorem zc0 (k:ziq) (mU m:List UInt8) (h:16≤m.length):(Qk k mU m).length=m.length:=Qu _ _ _ _ h
theorem zc1 (k:ziq) (mU m:List UInt8) (h:16≤m.length):(Ql k mU m).length=m.length:=Qu _ _ _ _ h
end Go.Hct
namespace Go.Wid
open Ops Oct Aes Ezk Aez Adi Hct
inductive ku where
 | adi (k:kV)
 | hct (k:ziq)
 | aez (k:zv)
def ku.alg:ku→Nat
 | .adi _=>1
 | .hct _=>2
 | .aez _=>3
def ku.least:ku→Nat
 | .adi _=>16
 | .hct _=>16
 | .aez _=>1
def ku.Fit:ku→Prop
 | .adi k=>2≤k.ks.length
 | .hct k=>2≤k.ks.length
 | .aez _=>True
def xM (k:ku) (mU m:List UInt8) (back:Bool):List UInt8 :=
 match k with
 | .adi k=>if back then XL k mU m else XK k mU m
 | .hct k=>if back then Ql k mU m else Qk k mU m
 | .aez k=>tK k [mU] m back
theorem q7 {k:ku} (mU:List UInt8) {m:List UInt8} (back:Bool) (h:k.least≤m.length):(xM k mU m back).length=m.length:=by
 cases k with
 | adi k=>cases back;exact zcv _ _ h;exact zcw _ _ h
 | hct k=>cases back;exact zc0 _ _ _ h;exact zc1 _ _ _ h
 | aez k=>exact Kg _ _ _ _
def ko (alg:Int) (n:Nat):Nat :=
 if alg=1 then (if n=32 then 0 else 2)
 else if alg=2 then (if n=16∨n=24∨n=32 then 0 else 2)
 else if alg=3 then (if 0 < n∧n≤128 then 0 else 2)
 else 8
def jy (alg:Int) (key:List UInt8):ku :=
 if alg=1 then .adi (zkf key) else if alg=2 then .hct (J0 (key.length / 4) (key.length==32) key) else .aez (zqx key)
theorem we (alg:Int) (key:List UInt8):(jy alg key).Fit:=by
 unfold jy
 split
 ·exact zkg key
 ·split
  ·show 2≤(expand _ _ _).length
   rw [wJ]
   omega
  ·trivial
end Go.Wid

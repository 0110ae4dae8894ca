/-
  Texts of this claim, one behind the other.
-/
import Derived.Test.YtjaioajjfiaheaaGreatDoorV1
import Derived.Test.YtjaioajjfiaheaaGreatDoorV7
import Derived.Lib.Hide
set_option linter.unusedVariables false
set_option linter.unusedSimpArgs false
set_option maxHeartbeats 16000000
set_option maxRecDepth 100000
open List renaming append_nil→bC,drop_append_of_le_length→bP,drop_eq_nil_of_le→Yx,ext_getElem?→uA,getD→bT,getD_cons_succ→KD,getD_cons_zero→J4,getElem?_append_left→bO,getElem?_drop→dJ,getElem?_eq_none→qc,getElem?_map→uV,getElem?_range→dh,length_append→q8,length_cons→uh,length_drop→XQ,length_map→yf,length_range→lM,length_set→Vo,length_take→Ku,nil_append→uo,range→uf,take_add_one→fA,take_append_drop→uX
open Nat renaming add_comm→fI,add_mul_div_right→gY,add_mul_mod_self_right→dL,add_sub_cancel→fV,div_le_self→dP,le_mul_of_pos_left→gT,le_refl→xc,lt_of_le_of_lt→cK,lt_or_ge→bg,lt_trans→mr,mod_eq_of_lt→dw,mod_lt→ma,mul_le_mul_right→uP,or_comm→mJ,pow_add→bA,testBit_div_two_pow→dU,testBit_mod_two_pow→dS,testBit_xor→gm,two_pow_pos→uT,zero_add→bH
open UInt32 renaming ofNat→bQ,toNat_ofNat_of_lt'→uy
open UInt64 renaming ofNat→wF,toNat_inj→uL,toNat_ofNat'→bJ,toNat_ofNat_of_lt'→uM,toNat_or→lN
open UInt8 renaming ofNat→VW,ofNat_toNat→uO,toNat_inj→fP,toNat_ofNat'→dx,toNat_xor→lW
namespace Go.Cha
open Ops Oct Trn
def zf2 (x:UInt32) (n:Nat):UInt32:=ziA (Q3 x n) (Y5 x (32 - n))
structure zac where
 a:UInt32
 b:UInt32
 c:UInt32
 d:UInt32
def q1 (f:zac) (n:Nat):zac:=⟨jI f.a f.b,f.b,f.c,zf2 (y6 f.d (jI f.a f.b)) n⟩
def q2 (f:zac) (n:Nat):zac:=⟨f.a,zf2 (y6 f.b (jI f.c f.d)) n,jI f.c f.d,f.d⟩
def quarter (f:zac):zac:=q2 (q1 (q2 (q1 f 16) 12) 8) 7
def Zp (s:List UInt32) (i j k l:Nat):List UInt32 :=
 let f:=quarter ⟨yR s i,yR s j,yR s k,yR s l⟩
 (((s.set i f.a).set j f.b).set k f.c).set l f.d
theorem QR (s:List UInt32) (i j k l:Nat):(Zp s i j k l).length=s.length:=by simp [Zp]
def jd (by':Nat) (s:List UInt32):Nat→List UInt32
 | 0=>s
 | i+1=>Zp (jd by' s i) i (4+(i+by') % 4) (8+(i+2*by') % 4) (12+(i+3*by') % 4)
theorem qT (by':Nat) (s:List UInt32):∀ i,(jd by' s i).length=s.length
 | 0=>rfl
 | i+1=>by rw [jd,QR,qT by' s i]
def xQ (s:List UInt32):Nat→List UInt32
 | 0=>s
 | r+1=>jd 1 (jd 0 (xQ s r) 4) 4
theorem zio (s:List UInt32):∀ r,(xQ s r).length=s.length
 | 0=>rfl
 | r+1=>by rw [xQ,qT,qT,zio s r]
def j5:List UInt8:=[101,120,112,97,110,100,32,51,50,45,98,121,116,101,32,107]
def wu (key inn:List UInt8) (r:Nat):UInt32 :=
 if r < 4 then yU j5 (4*r) else if r < 8 then yU key (4*(r - 4)) else if r < 12 then yU key (4*(r - 8)+16) else yU inn (4*(r - 12))
def je (key inn:List UInt8):List UInt32:=(uf 16).map (wu key inn)
theorem zjf (key inn:List UInt8):(je key inn).length=16:=by simp [je]
def sI (t s:List UInt32):List UInt32:=(uf 16).map fun i=>jI (yR t i) (yR s i)
theorem wV (t s:List UInt32):(sI t s).length=16:=by simp [sI]
def xi (l:List UInt32):List UInt8:=(l.map nz).flatten
theorem k4:∀ l:List UInt32,(xi l).length=4*l.length
 | []=>rfl
 | x::r=>by
  have:=k4 r
  unfold xi at this ⊢
  rw [List.map_cons,List.flatten_cons,q8,this,uh]
  simp [nz]
  omega
def wW (key inn:List UInt8) (rounds:Nat):List UInt8:=xi (sI (xQ (je key inn) (rounds / 2)) (je key inn))
theorem wX (key inn:List UInt8) (rounds:Nat):(wW key inn rounds).length=64:=by rw [wW,k4,wV]
def jw (key inn:List UInt8) (rounds:Nat):List UInt8 :=
 let t:=xQ (je key inn) (rounds / 2)
 xi (t.take 4)++xi (t.drop 12)
theorem wY (key inn:List UInt8) (rounds:Nat):(jw key inn rounds).length=32:=by
 simp [jw,k4,zio,zjf]
def kr (key ng:List UInt8) (rounds:Nat) (many:Nat):List UInt8:=wW (jw key (ng.take 16) rounds) (zz (wF many)++ng.drop 16) rounds
def xa (key ng:List UInt8) (rounds:Nat) (many:Nat) (b:List UInt8):List UInt8 :=
 if h:b.length=0 then [] else nX b (kr key ng rounds many)++xa key ng rounds (many+1) (b.drop 64)
termination_by b.length
decreasing_by simp;omega
def jT (key ng:List UInt8) (rounds:Nat) (b:List UInt8):List UInt8:=xa key ng rounds 0 b
theorem mW (a b:List UInt8):(nX a b).length=min a.length b.length:=by simp [nX]
theorem qE (key ng:List UInt8) (rounds many:Nat):(kr key ng rounds many).length=64:=wX _ _ _
theorem jf (key ng:List UInt8) (rounds:Nat):∀ (n many:Nat) (b:List UInt8),b.length≤n→(xa key ng rounds many b).length=b.length
 | n,many,b,h=>by
  unfold xa
  by_cases h0:b.length=0
  ·rw [dif_pos h0,h0];rfl
  ·rw [dif_neg h0,q8,mW,qE]
   match n,h with
   | 0,h=>omega
   | n+1,h =>
    rw [jf key ng rounds n (many+1) (b.drop 64) (by rw [XQ];omega),XQ]
    omega
theorem vy (key ng:List UInt8) (rounds:Nat) (b:List UInt8):(jT key ng rounds b).length=b.length:=jf _ _ _ _ _ _ (xc _)
theorem YO (a b:UInt8):ya (ya a b) b=a:=by unfold ya;rw [UInt8.xor_assoc,UInt8.xor_self,UInt8.xor_zero]
theorem mR {b:List UInt8} {i:Nat} (h:i < b.length):b[i]? = some (at8 b i):=by simp [at8,bT,h]
theorem Ym {a s:List UInt8} {i:Nat} (h:i < min a.length s.length):(nX a s)[i]? = some (ya (at8 a i) (at8 s i)):=by
 unfold nX
 rw [uV,dh h]
 rfl
theorem jU (key ng:List UInt8) (rounds many:Nat):xa key ng rounds many []=[]:=by
 unfold xa
 simp
theorem jr (a s:List UInt8):nX (nX a s) s=a.take s.length:=by
 apply uA
 intro i
 by_cases h:i < min a.length s.length
 ·have h1:(nX a s)[i]? = some (ya (at8 a i) (at8 s i)):=Ym h
  have h2:at8 (nX a s) i=ya (at8 a i) (at8 s i):=by rw [at8,bT,h1];rfl
  have h3:(nX (nX a s) s)[i]? = some (ya (at8 (nX a s) i) (at8 s i)):=Ym (by rw [mW];omega)
  rw [h3,h2,YO,List.getElem?_take,if_pos (by omega),mR (by omega)]
 ·rw [qc (by rw [mW,mW];omega),qc (by rw [Ku];omega)]
theorem Xe (key ng:List UInt8) (rounds:Nat):∀ (n many:Nat) (b:List UInt8),b.length≤n→xa key ng rounds many (xa key ng rounds many b)=b
 | n,many,b,h=>by
  by_cases h0:b.length=0
  ·have:b=[]:=List.eq_nil_of_length_eq_zero h0
   subst this
   rw [jU,jU]
  ·have e:xa key ng rounds many b=nX b (kr key ng rounds many)++xa key ng rounds (many+1) (b.drop 64):=by
    conv=>lhs;unfold xa
    rw [dif_neg h0]
   have hl:=jf key ng rounds _ many b (xc _)
   have hx:=mW b (kr key ng rounds many)
   rw [qE] at hx
   unfold xa
   rw [dif_neg (by omega)]
   match n,h with
   | 0,h=>omega
   | n+1,h =>
    have ih:=Xe key ng rounds n (many+1) (b.drop 64) (by rw [XQ];omega)
    by_cases h64:64≤b.length
    ·have hd:(xa key ng rounds many b).drop 64=xa key ng rounds (many+1) (b.drop 64):=by
      rw [e,bP (by omega),Yx (by omega),uo]
     have hxo:nX (xa key ng rounds many b) (kr key ng rounds many)=nX (nX b (kr key ng rounds many)) (kr key ng rounds many):=by
      rw [e]
      unfold nX
      have hs:=qE key ng rounds many
      have hcl:=jf key ng rounds _ (many+1) (b.drop 64) (xc _)
      simp only [q8,yf,lM,hs]
      have e1:min (min b.length 64+(xa key ng rounds (many+1) (b.drop 64)).length) 64=64:=by omega
      have e2:min (min b.length 64) 64=64:=by omega
      rw [e1,e2]
      apply List.map_congr_left
      intro i hi
      have hi:=List.mem_range.1 hi
      congr 1
      simp only [at8,bT]
      rw [bO (by simp;omega)]
     rw [hd,ih,hxo,jr,qE,uX]
    ·have hz:xa key ng rounds (many+1) (b.drop 64)=[]:=by
      rw [Yx (by omega),jU]
     rw [hz,bC] at e
     rw [e,jr,qE,List.take_of_length_le (by omega),Yx (by rw [hx];omega),jU,bC]
theorem zcj (key ng:List UInt8) (rounds:Nat) (b:List UInt8):jT key ng rounds (jT key ng rounds b)=b:=Xe _ _ _ _ _ _ (xc _)
end Go.Cha
namespace Go.pI
open Ops Oct Blake Trn
theorem yH (a:UInt64):(xk a 67108863).toNat=a.toNat % 67108864:=by
 unfold xk
 rw [UInt64.toNat_and]
 show a.toNat &&& 67108863=_
 exact Nat.and_two_pow_sub_one_eq_mod _ 26
theorem yx (a:UInt64) (n:Nat):(yp a n).toNat=a.toNat / 2 ^ n:=by
 unfold yp
 exact uM (cK (dP _ _) a.toNat_lt)
theorem xg (a b:UInt64) (h:a.toNat+b.toNat < 18446744073709551616):(zy a b).toNat=a.toNat+b.toNat:=by
 unfold zy
 rw [UInt64.toNat_add]
 exact dw h
theorem Yy (a b:UInt64) (h:a.toNat*b.toNat < 18446744073709551616):(xP a b).toNat=a.toNat*b.toNat:=by
 unfold xP
 rw [UInt64.toNat_mul]
 exact dw h
def PP:Nat:=1361129467683753853853498429727072845819
def xA (l:List UInt64):Nat:=(at64 l 0).toNat+67108864*(at64 l 1).toNat+4503599627370496*(at64 l 2).toNat+302231454903657293676544*(at64 l 3).toNat+20282409603651670423947251286016*(at64 l 4).toNat
def q6 (l:List UInt64):Nat→List UInt64×UInt64
 | 0=>(l,0)
 | i+1=>((q6 l i).1.set i (xk (zy (at64 (q6 l i).1 i) (q6 l i).2) 67108863),yp (zy (at64 (q6 l i).1 i) (q6 l i).2) 26)
def carried (l:List UInt64):List UInt64:=(q6 l 5).1.set 0 (zy (at64 (q6 l 5).1 0) (xP 5 (q6 l 5).2))
theorem vT (l:List UInt64):∀ i,(q6 l i).1.length=l.length
 | 0=>rfl
 | i+1=>by rw [q6,Vo,vT l i]
theorem vU (l:List UInt64):(carried l).length=l.length:=by rw [carried,Vo,vT]
def Zq (l:List UInt64):Prop:=l.length=5∧∀ i,i < 5→(at64 l i).toNat < 1152921504606846976
def vV (l:List UInt64):Prop:=l.length=5∧∀ i,i < 5→(at64 l i).toNat < 67108864
theorem zck {α:Type} {l:List α} (h:l.length=5):∃ a0 a1 a2 a3 a4,l=[a0,a1,a2,a3,a4]:=by
 match l,h with
 | [a0,a1,a2,a3,a4],_=>exact ⟨a0,a1,a2,a3,a4,rfl⟩
theorem vV.loose {l:List UInt64} (h:vV l):Zq l:=⟨h.1,fun i hi=>mr (h.2 i hi) (by decide)⟩
theorem JJ (a0 a1 a2 a3 a4:UInt64):∃ x1 x2 x3 x4,x1=zy a1 (yp (zy a0 0) 26)∧x2=zy a2 (yp x1 26)∧x3=zy a3 (yp x2 26)∧x4=zy a4 (yp x3 26) ∧
  carried [a0,a1,a2,a3,a4]=[zy (xk (zy a0 0) 67108863) (xP 5 (yp x4 26)),xk x1 67108863,xk x2 67108863,xk x3 67108863,xk x4 67108863] :=
 ⟨_,_,_,_,rfl,rfl,rfl,rfl,rfl⟩
theorem vA {l:List UInt64} (h:Zq l):∃ c,xA (carried l)+c*PP=xA l∧c < 68719476736∧(∀ i,0 < i→i < 5→(at64 (carried l) i).toNat < 67108864)∧(at64 (carried l) 0).toNat < 67108864+5*c∧Zq (carried l):=by
 obtain ⟨a0,a1,a2,a3,a4,rfl⟩:=zck h.1
 have h0:a0.toNat < 1152921504606846976:=h.2 0 (by omega)
 have h1:a1.toNat < 1152921504606846976:=h.2 1 (by omega)
 have h2:a2.toNat < 1152921504606846976:=h.2 2 (by omega)
 have h3:a3.toNat < 1152921504606846976:=h.2 3 (by omega)
 have h4:a4.toNat < 1152921504606846976:=h.2 4 (by omega)
 obtain ⟨x1,x2,x3,x4,e1,e2,e3,e4,hc⟩:=JJ a0 a1 a2 a3 a4
 have f0:(zy a0 0).toNat=a0.toNat:=by rw [xg _ _ (by simp;omega)];rfl
 have f1:x1.toNat=a1.toNat+a0.toNat / 67108864:=by
  rw [e1,xg,yx,f0]
  rw [yx,f0];omega
 have f2:x2.toNat=a2.toNat+x1.toNat / 67108864:=by
  rw [e2,xg,yx]
  rw [yx];omega
 have f3:x3.toNat=a3.toNat+x2.toNat / 67108864:=by
  rw [e3,xg,yx]
  rw [yx];omega
 have f4:x4.toNat=a4.toNat+x3.toNat / 67108864:=by
  rw [e4,xg,yx]
  rw [yx];omega
 have s4:(yp x4 26).toNat=x4.toNat / 67108864:=yx _ _
 have m5:(xP 5 (yp x4 26)).toNat=5*(x4.toNat / 67108864):=by
  rw [Yy,s4];rfl
  rw [s4];show 5*_ < _;omega
 have g0:(zy (xk (zy a0 0) 67108863) (xP 5 (yp x4 26))).toNat=a0.toNat % 67108864+5*(x4.toNat / 67108864):=by
  rw [xg,yH,f0,m5]
  rw [yH,f0,m5];omega
 rw [hc]
 refine ⟨x4.toNat / 67108864,?_,by omega,?_,?_,rfl,?_⟩
 ·simp only [xA,at64,J4,KD,g0,yH,PP]
  omega
 ·intro i hi0 hi
  match i,hi0,hi with
  | 1,_,_=>simp only [at64,J4,KD,yH];omega
  | 2,_,_=>simp only [at64,J4,KD,yH];omega
  | 3,_,_=>simp only [at64,J4,KD,yH];omega
  | 4,_,_=>simp only [at64,J4,KD,yH];omega
 ·simp only [at64,J4,g0];omega
 ·intro i hi
  match i,hi with
  | 0,_=>simp only [at64,J4,g0];omega
  | 1,_=>simp only [at64,J4,KD,yH];omega
  | 2,_=>simp only [at64,J4,KD,yH];omega
  | 3,_=>simp only [at64,J4,KD,yH];omega
  | 4,_=>simp only [at64,J4,KD,yH];omega
theorem VH {l:List UInt64} (h:vV l):carried l=l:=by
 obtain ⟨a0,a1,a2,a3,a4,rfl⟩:=zck h.1
 have h0:a0.toNat < 67108864:=h.2 0 (by omega)
 have h1:a1.toNat < 67108864:=h.2 1 (by omega)
 have h2:a2.toNat < 67108864:=h.2 2 (by omega)
 have h3:a3.toNat < 67108864:=h.2 3 (by omega)
 have h4:a4.toNat < 67108864:=h.2 4 (by omega)
 have add0:∀ x:UInt64,zy x 0=x:=fun x=>UInt64.add_zero x
 have zgB:∀ x:UInt64,x.toNat < 67108864→yp x 26=0:=fun x hx=>uL.1 (by rw [yx];show _=0;omega)
 have zgC:∀ x:UInt64,x.toNat < 67108864→xk x 67108863=x:=fun x hx=>uL.1 (by rw [yH];omega)
 obtain ⟨x1,x2,x3,x4,e1,e2,e3,e4,hc⟩:=JJ a0 a1 a2 a3 a4
 have f1:x1=a1:=by rw [e1,add0,zgB _ h0,add0]
 have f2:x2=a2:=by rw [e2,f1,zgB _ h1,add0]
 have f3:x3=a3:=by rw [e3,f2,zgB _ h2,add0]
 have f4:x4=a4:=by rw [e4,f3,zgB _ h3,add0]
 rw [hc,f1,f2,f3,f4,zgB _ h4,add0,zgC _ h0,zgC _ h1,zgC _ h2,zgC _ h3,zgC _ h4]
 rw [show xP 5 0=0 from rfl,add0]
instance (l:List UInt64):Decidable (∀ i,i < 5→(at64 l i).toNat < 67108864):=inferInstance
def meas (l:List UInt64):Nat:=2*xA l+if (∀ i,i < 5→(at64 l i).toNat < 67108864) then 0 else 1
theorem zhe {l:List UInt64} (h:Zq l) (hne:carried l≠l):meas (carried l) < meas l:=by
 obtain ⟨c,h1,h2,h3,h4,h5⟩:=vA h
 unfold meas
 by_cases hc:c=0
 ·subst hc
  have hv:xA (carried l)=xA l:=by simpa using h1
  have ht:∀ i,i < 5→(at64 (carried l) i).toNat < 67108864:=by
   intro i hi
   by_cases e:i=0
   ·subst e;simpa using h4
   ·exact h3 i (by omega) hi
  have hn:¬ ∀ i,i < 5→(at64 l i).toNat < 67108864:=fun hall=>hne (VH ⟨h.1,hall⟩)
  rw [if_pos ht,if_neg hn,hv]
  omega
 ·have hp:PP≤c*PP:=gT _ (by omega)
  have hpp:1≤PP:=by decide
  split <;> split <;> omega
theorem QS {l:List UInt64} (h:Zq l) (he:carried l=l):vV l:=by
 obtain ⟨c,h1,h2,h3,h4,h5⟩:=vA h
 rw [he] at h1 h3 h4
 have hc:c=0:=by
  rcases Nat.eq_zero_or_pos c with h | h
  ·exact h
  ·have hp:PP≤c*PP:=gT _ h
   have hpp:1≤PP:=by decide
   omega
 subst hc
 refine ⟨h.1,fun i hi=>?_⟩
 by_cases e:i=0
 ·subst e;simpa using h4
 ·exact h3 i (by omega) hi
theorem zcl {l:List UInt64} (h:Zq l):xA (carried l) % PP=xA l % PP:=by
 obtain ⟨c,h1,_⟩:=vA h
 rw [← h1,dL]
def numOf (n:Nat):List UInt32:=[bQ (n % 67108864),bQ (n / 67108864 % 67108864),bQ (n / 4503599627370496 % 67108864),bQ (n / 302231454903657293676544 % 67108864),bQ (n / 20282409603651670423947251286016 % 67108864)]
def Qi (l:List UInt64):List UInt32:=[yX (at64 l 0),yX (at64 l 1),yX (at64 l 2),yX (at64 l 3),yX (at64 l 4)]
def sN (l:List UInt64):List UInt64:=if (at64 l 1=67108863∧at64 l 2=67108863∧at64 l 3=67108863∧at64 l 4=67108863)∧67108858 < (at64 l 0).toNat then [wk (at64 l 0) 67108859,0,0,0,0] else l
theorem Ko {l:List UInt64} (h:vV l):Qi l=numOf (xA l):=by
 obtain ⟨a0,a1,a2,a3,a4,rfl⟩:=zck h.1
 have h0:a0.toNat < 67108864:=h.2 0 (by omega)
 have h1:a1.toNat < 67108864:=h.2 1 (by omega)
 have h2:a2.toNat < 67108864:=h.2 2 (by omega)
 have h3:a3.toNat < 67108864:=h.2 3 (by omega)
 have h4:a4.toNat < 67108864:=h.2 4 (by omega)
 simp only [Qi,numOf,xA,yX,at64,J4,KD]
 congr 1
 ·congr 1;omega
 congr 1
 ·congr 1;omega
 congr 1
 ·congr 1;omega
 congr 1
 ·congr 1;omega
 congr 1
 ·congr 1;omega
theorem QT {l:List UInt64} (h:vV l):Qi (sN l)=numOf (xA l % PP):=by
 obtain ⟨a0,a1,a2,a3,a4,rfl⟩:=zck h.1
 have h0:a0.toNat < 67108864:=h.2 0 (by omega)
 have h1:a1.toNat < 67108864:=h.2 1 (by omega)
 have h2:a2.toNat < 67108864:=h.2 2 (by omega)
 have h3:a3.toNat < 67108864:=h.2 3 (by omega)
 have h4:a4.toNat < 67108864:=h.2 4 (by omega)
 unfold sN
 by_cases hc:(at64 [a0,a1,a2,a3,a4] 1=67108863∧at64 [a0,a1,a2,a3,a4] 2=67108863∧at64 [a0,a1,a2,a3,a4] 3=67108863∧at64 [a0,a1,a2,a3,a4] 4=67108863)∧67108858 < (at64 [a0,a1,a2,a3,a4] 0).toNat
 ·rw [if_pos hc]
  simp only [at64,J4,KD] at hc ⊢
  obtain ⟨⟨rfl,rfl,rfl,rfl⟩,h5⟩:=hc
  have hs:(wk a0 67108859).toNat=a0.toNat - 67108859:=by
   unfold wk
   exact UInt64.toNat_sub_of_le _ _ (by rw [UInt64.le_iff_toNat_le];show 67108859≤a0.toNat;omega)
  have hm:(67108863:UInt64).toNat=67108863:=rfl
  have hv:xA [a0,67108863,67108863,67108863,67108863] % PP=a0.toNat - 67108859:=by
   simp only [xA,at64,J4,KD,hm,PP]
   omega
  have ht:vV [wk a0 67108859,0,0,0,0]:=by
   refine ⟨rfl,fun i hi=>?_⟩
   match i,hi with
   | 0,_=>simp only [at64,J4,hs];omega
   | 1,_=>exact (by decide:(0:UInt64).toNat < 67108864)
   | 2,_=>exact (by decide:(0:UInt64).toNat < 67108864)
   | 3,_=>exact (by decide:(0:UInt64).toNat < 67108864)
   | 4,_=>exact (by decide:(0:UInt64).toNat < 67108864)
  have hv2:xA [wk a0 67108859,0,0,0,0]=a0.toNat - 67108859:=by
   have hz:(0:UInt64).toNat=0:=rfl
   simp only [xA,at64,J4,KD,hs,hz]
   omega
  rw [Ko ht,hv,hv2]
 ·rw [if_neg hc,Ko h]
  congr 1
  symm
  apply dw
  simp only [at64,J4,KD] at hc
  by_cases e:a1.toNat=67108863∧a2.toNat=67108863∧a3.toNat=67108863∧a4.toNat=67108863
  ·have h5:¬ 67108858 < a0.toNat:=fun h6=>hc ⟨⟨uL.1 e.1,uL.1 e.2.1,uL.1 e.2.2.1,uL.1 e.2.2.2⟩,h6⟩
   simp only [xA,at64,J4,KD,PP]
   omega
  ·simp only [xA,at64,J4,KD,PP]
   omega
end Go.pI
namespace Go.pI
open Ops Oct Blake Trn
def xq (l:List UInt32):List UInt64:=[yI (yR l 0),yI (yR l 1),yI (yR l 2),yI (yR l 3),yI (yR l 4)]
theorem kJ (x:UInt32):(yI x).toNat=x.toNat:=by
 unfold yI
 exact uM (mr x.toNat_lt (by decide))
theorem qI (n:Nat):vV (xq (numOf n)):=by
 refine ⟨rfl,fun i hi=>?_⟩
 match i,hi with
 | 0,_=>show (yI _).toNat < _;rw [kJ,yR,numOf,J4,uy (by show _ < 4294967296;omega)];omega
 | 1,_=>show (yI _).toNat < _;rw [kJ,yR,numOf,KD,J4,uy (by show _ < 4294967296;omega)];omega
 | 2,_=>show (yI _).toNat < _;rw [kJ,yR,numOf,KD,KD,J4,uy (by show _ < 4294967296;omega)];omega
 | 3,_=>show (yI _).toNat < _;rw [kJ,yR,numOf,KD,KD,KD,J4,uy (by show _ < 4294967296;omega)];omega
 | 4,_=>show (yI _).toNat < _;rw [kJ,yR,numOf,KD,KD,KD,KD,J4,uy (by show _ < 4294967296;omega)];omega
theorem kS {n:Nat} (h:n < 1361129467683753853853498429727072845824):xA (xq (numOf n))=n:=by
 have e0:∀ m:Nat,(bQ (m % 67108864)).toNat=m % 67108864:=fun m=>uy (by show _ < 4294967296;omega)
 simp only [xA,xq,numOf,at64,yR,J4,KD,kJ,e0]
 omega
def zcm (a b:List UInt64):List UInt64:=[zy (at64 a 0) (at64 b 0),zy (at64 a 1) (at64 b 1),zy (at64 a 2) (at64 b 2),zy (at64 a 3) (at64 b 3),zy (at64 a 4) (at64 b 4)]
theorem zez {a b:List UInt64} (ha:vV a) (hb:vV b):Zq (zcm a b)∧xA (zcm a b)=xA a+xA b:=by
 have e:∀ i,i < 5→(zy (at64 a i) (at64 b i)).toNat=(at64 a i).toNat+(at64 b i).toNat:=fun i hi=>xg _ _ (by have:=ha.2 i hi;have:=hb.2 i hi;omega)
 constructor
 ·refine ⟨rfl,fun i hi=>?_⟩
  have h1:=ha.2 i hi
  have h2:=hb.2 i hi
  have h3:=e i hi
  match i,hi with
  | 0,_=>show (zy _ _).toNat < _;omega
  | 1,_=>show (zy _ _).toNat < _;omega
  | 2,_=>show (zy _ _).toNat < _;omega
  | 3,_=>show (zy _ _).toNat < _;omega
  | 4,_=>show (zy _ _).toNat < _;omega
 ·have e0:=e 0 (by omega);have e1:=e 1 (by omega);have e2:=e 2 (by omega);have e3:=e 3 (by omega);have e4:=e 4 (by omega)
  have hd:∀ x0 x1 x2 x3 x4:UInt64,xA [x0,x1,x2,x3,x4]=x0.toNat+67108864*x1.toNat+4503599627370496*x2.toNat+302231454903657293676544*x3.toNat+20282409603651670423947251286016*x4.toNat:=fun _ _ _ _ _=>rfl
  unfold zcm
  rw [hd,e0,e1,e2,e3,e4]
  unfold xA
  omega
def zS (a b:List UInt64) (i j:Nat):UInt64:=if 5≤i+j then xP (xP (at64 a i) (at64 b j)) 5 else xP (at64 a i) (at64 b j)
def zf3 (a b w:List UInt64) (i j:Nat):List UInt64:=w.set ((i+j) % 5) (zy (at64 w ((i+j) % 5)) (zS a b i j))
def sZ (a b w:List UInt64) (i:Nat):Nat→List UInt64
 | 0=>w
 | j+1=>zf3 a b (sZ a b w i j) i j
def pz (a b w:List UInt64):Nat→List UInt64
 | 0=>w
 | i+1=>sZ a b (pz a b w i) i 5
theorem zad (a b w:List UInt64) (i j:Nat):(zf3 a b w i j).length=w.length:=by simp [zf3]
theorem Yz (a b w:List UInt64) (i:Nat):∀ j,(sZ a b w i j).length=w.length
 | 0=>rfl
 | j+1=>by rw [sZ,zad,Yz a b w i j]
theorem wZ (a b w:List UInt64):∀ i,(pz a b w i).length=w.length
 | 0=>rfl
 | i+1=>by rw [pz,Yz,wZ a b w i]
theorem zhf {a b:List UInt64} (ha:vV a) (hb:vV b) {i j:Nat} (hi:i < 5) (hj:j < 5):(zS a b i j).toNat=(if 5≤i+j then 5 else 1)*((at64 a i).toNat*(at64 b j).toNat)∧(at64 a i).toNat*(at64 b j).toNat≤4503599627370496:=by
 have h1:=ha.2 i hi
 have h2:=hb.2 j hj
 have hm:(at64 a i).toNat*(at64 b j).toNat≤67108864*67108864:=Nat.mul_le_mul (by omega) (by omega)
 have hp:(xP (at64 a i) (at64 b j)).toNat=(at64 a i).toNat*(at64 b j).toNat:=Yy _ _ (by omega)
 refine ⟨?_,by omega⟩
 unfold zS
 split
 ·rw [Yy _ _ (by rw [hp];show _*5 < _;omega),hp]
  show _*5=_
  omega
 ·rw [hp];omega
attribute [local irreducible] zS zy in
theorem zgD (a b:List UInt64) (w0 w1 w2 w3 w4:UInt64):sZ a b [w0,w1,w2,w3,w4] 0 5=[zy w0 (zS a b 0 0),zy w1 (zS a b 0 1),zy w2 (zS a b 0 2),zy w3 (zS a b 0 3),zy w4 (zS a b 0 4)]:=rfl
attribute [local irreducible] zS zy in
theorem zgE (a b:List UInt64) (w0 w1 w2 w3 w4:UInt64):sZ a b [w0,w1,w2,w3,w4] 1 5=[zy w0 (zS a b 1 4),zy w1 (zS a b 1 0),zy w2 (zS a b 1 1),zy w3 (zS a b 1 2),zy w4 (zS a b 1 3)]:=rfl
attribute [local irreducible] zS zy in
theorem zgF (a b:List UInt64) (w0 w1 w2 w3 w4:UInt64):sZ a b [w0,w1,w2,w3,w4] 2 5=[zy w0 (zS a b 2 3),zy w1 (zS a b 2 4),zy w2 (zS a b 2 0),zy w3 (zS a b 2 1),zy w4 (zS a b 2 2)]:=rfl
attribute [local irreducible] zS zy in
theorem zgG (a b:List UInt64) (w0 w1 w2 w3 w4:UInt64):sZ a b [w0,w1,w2,w3,w4] 3 5=[zy w0 (zS a b 3 2),zy w1 (zS a b 3 3),zy w2 (zS a b 3 4),zy w3 (zS a b 3 0),zy w4 (zS a b 3 1)]:=rfl
attribute [local irreducible] zS zy in
theorem zgH (a b:List UInt64) (w0 w1 w2 w3 w4:UInt64):sZ a b [w0,w1,w2,w3,w4] 4 5=[zy w0 (zS a b 4 1),zy w1 (zS a b 4 2),zy w2 (zS a b 4 3),zy w3 (zS a b 4 4),zy w4 (zS a b 4 0)]:=rfl
theorem zhg (a b:List UInt64):pz a b [0,0,0,0,0] 5=[zy (zy (zy (zy (zy 0 (zS a b 0 0)) (zS a b 1 4)) (zS a b 2 3)) (zS a b 3 2)) (zS a b 4 1),zy (zy (zy (zy (zy 0 (zS a b 0 1)) (zS a b 1 0)) (zS a b 2 4)) (zS a b 3 3)) (zS a b 4 2),zy (zy (zy (zy (zy 0 (zS a b 0 2)) (zS a b 1 1)) (zS a b 2 0)) (zS a b 3 4)) (zS a b 4 3),zy (zy (zy (zy (zy 0 (zS a b 0 3)) (zS a b 1 2)) (zS a b 2 1)) (zS a b 3 0)) (zS a b 4 4),zy (zy (zy (zy (zy 0 (zS a b 0 4)) (zS a b 1 3)) (zS a b 2 2)) (zS a b 3 1)) (zS a b 4 0)]:=by
 rw [pz,pz,pz,pz,pz,pz,zgD,zgE,zgF,zgG,zgH]
theorem zgI {x0 x1 x2 x3 x4:UInt64} (h0:x0.toNat≤22517998136852480) (h1:x1.toNat≤22517998136852480) (h2:x2.toNat≤22517998136852480) (h3:x3.toNat≤22517998136852480) (h4:x4.toNat≤22517998136852480) :
  (zy (zy (zy (zy (zy 0 x0) x1) x2) x3) x4).toNat=x0.toNat+x1.toNat+x2.toNat+x3.toNat+x4.toNat:=by
 have z:(0:UInt64).toNat=0:=rfl
 have e0:(zy 0 x0).toNat=x0.toNat:=by rw [xg _ _ (by omega),z];omega
 have e1:(zy (zy 0 x0) x1).toNat=x0.toNat+x1.toNat:=by rw [xg _ _ (by omega),e0]
 have e2:(zy (zy (zy 0 x0) x1) x2).toNat=x0.toNat+x1.toNat+x2.toNat:=by rw [xg _ _ (by omega),e1]
 have e3:(zy (zy (zy (zy 0 x0) x1) x2) x3).toNat=x0.toNat+x1.toNat+x2.toNat+x3.toNat:=by rw [xg _ _ (by omega),e2]
 rw [xg _ _ (by omega),e3]
theorem zcn {a b:List UInt64} (ha:vV a) (hb:vV b):Zq (pz a b [0,0,0,0,0] 5)∧xA (pz a b [0,0,0,0,0] 5) % PP=xA a*xA b % PP:=by
 have T:=fun i j (hi:i < 5) (hj:j < 5)=>zhf ha hb hi hj
 have bound:∀ i j,i < 5→j < 5→(zS a b i j).toNat≤22517998136852480:=by
  intro i j hi hj
  obtain ⟨h1,h2⟩:=T i j hi hj
  rw [h1]
  split <;> omega
 have s0:=zgI (bound 0 0 (by omega) (by omega)) (bound 1 4 (by omega) (by omega)) (bound 2 3 (by omega) (by omega)) (bound 3 2 (by omega) (by omega)) (bound 4 1 (by omega) (by omega))
 have s1:=zgI (bound 0 1 (by omega) (by omega)) (bound 1 0 (by omega) (by omega)) (bound 2 4 (by omega) (by omega)) (bound 3 3 (by omega) (by omega)) (bound 4 2 (by omega) (by omega))
 have s2:=zgI (bound 0 2 (by omega) (by omega)) (bound 1 1 (by omega) (by omega)) (bound 2 0 (by omega) (by omega)) (bound 3 4 (by omega) (by omega)) (bound 4 3 (by omega) (by omega))
 have s3:=zgI (bound 0 3 (by omega) (by omega)) (bound 1 2 (by omega) (by omega)) (bound 2 1 (by omega) (by omega)) (bound 3 0 (by omega) (by omega)) (bound 4 4 (by omega) (by omega))
 have s4:=zgI (bound 0 4 (by omega) (by omega)) (bound 1 3 (by omega) (by omega)) (bound 2 2 (by omega) (by omega)) (bound 3 1 (by omega) (by omega)) (bound 4 0 (by omega) (by omega))
 have t00:(zS a b 0 0).toNat=((at64 a 0).toNat*(at64 b 0).toNat):=by rw [(T 0 0 (by omega) (by omega)).1];simp
 have t01:(zS a b 0 1).toNat=((at64 a 0).toNat*(at64 b 1).toNat):=by rw [(T 0 1 (by omega) (by omega)).1];simp
 have t02:(zS a b 0 2).toNat=((at64 a 0).toNat*(at64 b 2).toNat):=by rw [(T 0 2 (by omega) (by omega)).1];simp
 have t03:(zS a b 0 3).toNat=((at64 a 0).toNat*(at64 b 3).toNat):=by rw [(T 0 3 (by omega) (by omega)).1];simp
 have t04:(zS a b 0 4).toNat=((at64 a 0).toNat*(at64 b 4).toNat):=by rw [(T 0 4 (by omega) (by omega)).1];simp
 have t10:(zS a b 1 0).toNat=((at64 a 1).toNat*(at64 b 0).toNat):=by rw [(T 1 0 (by omega) (by omega)).1];simp
 have t11:(zS a b 1 1).toNat=((at64 a 1).toNat*(at64 b 1).toNat):=by rw [(T 1 1 (by omega) (by omega)).1];simp
 have t12:(zS a b 1 2).toNat=((at64 a 1).toNat*(at64 b 2).toNat):=by rw [(T 1 2 (by omega) (by omega)).1];simp
 have t13:(zS a b 1 3).toNat=((at64 a 1).toNat*(at64 b 3).toNat):=by rw [(T 1 3 (by omega) (by omega)).1];simp
 have t14:(zS a b 1 4).toNat=5*((at64 a 1).toNat*(at64 b 4).toNat):=by rw [(T 1 4 (by omega) (by omega)).1];simp
 have t20:(zS a b 2 0).toNat=((at64 a 2).toNat*(at64 b 0).toNat):=by rw [(T 2 0 (by omega) (by omega)).1];simp
 have t21:(zS a b 2 1).toNat=((at64 a 2).toNat*(at64 b 1).toNat):=by rw [(T 2 1 (by omega) (by omega)).1];simp
 have t22:(zS a b 2 2).toNat=((at64 a 2).toNat*(at64 b 2).toNat):=by rw [(T 2 2 (by omega) (by omega)).1];simp
 have t23:(zS a b 2 3).toNat=5*((at64 a 2).toNat*(at64 b 3).toNat):=by rw [(T 2 3 (by omega) (by omega)).1];simp
 have t24:(zS a b 2 4).toNat=5*((at64 a 2).toNat*(at64 b 4).toNat):=by rw [(T 2 4 (by omega) (by omega)).1];simp
 have t30:(zS a b 3 0).toNat=((at64 a 3).toNat*(at64 b 0).toNat):=by rw [(T 3 0 (by omega) (by omega)).1];simp
 have t31:(zS a b 3 1).toNat=((at64 a 3).toNat*(at64 b 1).toNat):=by rw [(T 3 1 (by omega) (by omega)).1];simp
 have t32:(zS a b 3 2).toNat=5*((at64 a 3).toNat*(at64 b 2).toNat):=by rw [(T 3 2 (by omega) (by omega)).1];simp
 have t33:(zS a b 3 3).toNat=5*((at64 a 3).toNat*(at64 b 3).toNat):=by rw [(T 3 3 (by omega) (by omega)).1];simp
 have t34:(zS a b 3 4).toNat=5*((at64 a 3).toNat*(at64 b 4).toNat):=by rw [(T 3 4 (by omega) (by omega)).1];simp
 have t40:(zS a b 4 0).toNat=((at64 a 4).toNat*(at64 b 0).toNat):=by rw [(T 4 0 (by omega) (by omega)).1];simp
 have t41:(zS a b 4 1).toNat=5*((at64 a 4).toNat*(at64 b 1).toNat):=by rw [(T 4 1 (by omega) (by omega)).1];simp
 have t42:(zS a b 4 2).toNat=5*((at64 a 4).toNat*(at64 b 2).toNat):=by rw [(T 4 2 (by omega) (by omega)).1];simp
 have t43:(zS a b 4 3).toNat=5*((at64 a 4).toNat*(at64 b 3).toNat):=by rw [(T 4 3 (by omega) (by omega)).1];simp
 have t44:(zS a b 4 4).toNat=5*((at64 a 4).toNat*(at64 b 4).toNat):=by rw [(T 4 4 (by omega) (by omega)).1];simp
 have hd:∀ x0 x1 x2 x3 x4:UInt64,xA [x0,x1,x2,x3,x4]=x0.toNat+67108864*x1.toNat+4503599627370496*x2.toNat+302231454903657293676544*x3.toNat+20282409603651670423947251286016*x4.toNat:=fun _ _ _ _ _=>rfl
 rw [zhg]
 refine ⟨⟨rfl,fun i hi=>?_⟩,?_⟩
 ·match i,hi with
  | 0,_=>show (zy _ _).toNat < _;rw [s0];have:=bound 0 0 (by omega) (by omega);have:=bound 1 4 (by omega) (by omega);have:=bound 2 3 (by omega) (by omega);have:=bound 3 2 (by omega) (by omega);have:=bound 4 1 (by omega) (by omega);omega
  | 1,_=>show (zy _ _).toNat < _;rw [s1];have:=bound 0 1 (by omega) (by omega);have:=bound 1 0 (by omega) (by omega);have:=bound 2 4 (by omega) (by omega);have:=bound 3 3 (by omega) (by omega);have:=bound 4 2 (by omega) (by omega);omega
  | 2,_=>show (zy _ _).toNat < _;rw [s2];have:=bound 0 2 (by omega) (by omega);have:=bound 1 1 (by omega) (by omega);have:=bound 2 0 (by omega) (by omega);have:=bound 3 4 (by omega) (by omega);have:=bound 4 3 (by omega) (by omega);omega
  | 3,_=>show (zy _ _).toNat < _;rw [s3];have:=bound 0 3 (by omega) (by omega);have:=bound 1 2 (by omega) (by omega);have:=bound 2 1 (by omega) (by omega);have:=bound 3 0 (by omega) (by omega);have:=bound 4 4 (by omega) (by omega);omega
  | 4,_=>show (zy _ _).toNat < _;rw [s4];have:=bound 0 4 (by omega) (by omega);have:=bound 1 3 (by omega) (by omega);have:=bound 2 2 (by omega) (by omega);have:=bound 3 1 (by omega) (by omega);have:=bound 4 0 (by omega) (by omega);omega
 ·rw [hd,s0,s1,s2,s3,s4]
  unfold xA
  rw [t00,t01,t02,t03,t04,t10,t11,t12,t13,t14,t20,t21,t22,t23,t24,t30,t31,t32,t33,t34,t40,t41,t42,t43,t44]
  generalize (at64 a 0).toNat=a0
  generalize (at64 b 0).toNat=b0
  generalize (at64 a 1).toNat=a1
  generalize (at64 b 1).toNat=b1
  generalize (at64 a 2).toNat=a2
  generalize (at64 b 2).toNat=b2
  generalize (at64 a 3).toNat=a3
  generalize (at64 b 3).toNat=b3
  generalize (at64 a 4).toNat=a4
  generalize (at64 b 4).toNat=b4
  have key:(a0+67108864*a1+4503599627370496*a2+302231454903657293676544*a3+20282409603651670423947251286016*a4)*(b0+67108864*b1+4503599627370496*b2+302231454903657293676544*b3+20282409603651670423947251286016*b4)=((a0*b0+5*(a1*b4)+5*(a2*b3)+5*(a3*b2)+5*(a4*b1))+67108864*(a0*b1+a1*b0+5*(a2*b4)+5*(a3*b3)+5*(a4*b2))+4503599627370496*(a0*b2+a1*b1+a2*b0+5*(a3*b4)+5*(a4*b3))+302231454903657293676544*(a0*b3+a1*b2+a2*b1+a3*b0+5*(a4*b4))+20282409603651670423947251286016*(a0*b4+a1*b3+a2*b2+a3*b1+a4*b0))+((a1*b4+a2*b3+a3*b2+a4*b1)+67108864*(a2*b4+a3*b3+a4*b2)+4503599627370496*(a3*b4+a4*b3)+302231454903657293676544*(a4*b4))*PP:=by
   unfold PP
   grind
  rw [key,dL]
theorem qU (a:UInt64) (n:Nat):(xf a n).toNat=a.toNat*2 ^ n % 18446744073709551616:=by
 unfold xf
 exact bJ
theorem jx (a b:UInt64) (k:Nat) (ha:a.toNat < 2 ^ k) (hb:b.toNat % 2 ^ k=0):(wi a b).toNat=a.toNat+b.toNat:=by
 unfold wi
 rw [lN]
 obtain ⟨q,hq⟩:∃ q,b.toNat=2 ^ k*q:=⟨b.toNat / 2 ^ k,by have:=Nat.div_add_mod b.toNat (2 ^ k);omega⟩
 rw [hq,mJ,← Nat.two_pow_add_eq_or_of_lt ha,fI]
def ofL (lo hi:UInt64) (high:UInt32):List UInt64:=[xk lo 67108863,xk (yp lo 26) 67108863,xk (wi (yp lo 52) (xf hi 12)) 67108863,xk (yp hi 14) 67108863,wi (yp hi 40) (xf (yI high) 24)]
theorem zj9 (lo hi:UInt64) (high:UInt32) (hh:high.toNat≤1):Zq (ofL lo hi high)∧xA (ofL lo hi high)=lo.toNat+18446744073709551616*hi.toNat+340282366920938463463374607431768211456*high.toNat:=by
 have hl:=lo.toNat_lt
 have hi':=hi.toNat_lt
 have p2:(wi (yp lo 52) (xf hi 12)).toNat=lo.toNat / 4503599627370496+hi.toNat*4096 % 18446744073709551616:=by
  rw [jx _ _ 12 (by rw [yx];show _ / 4503599627370496 < 4096;omega) (by rw [qU];show _*4096 % 18446744073709551616 % 4096=0;omega),yx,qU]
 have p4:(wi (yp hi 40) (xf (yI high) 24)).toNat=hi.toNat / 1099511627776+high.toNat*16777216:=by
  have e:(xf (yI high) 24).toNat=high.toNat*16777216:=by
   rw [qU,kJ]
   show _*16777216 % _=_
   omega
  rw [jx _ _ 24 (by rw [yx];show _ / 1099511627776 < 16777216;omega) (by rw [e];show _*16777216 % 16777216=0;omega),yx,e]
 have q0:(xk lo 67108863).toNat=lo.toNat % 67108864:=yH _
 have q1:(xk (yp lo 26) 67108863).toNat=lo.toNat / 67108864 % 67108864:=by rw [yH,yx]
 have q2:(xk (wi (yp lo 52) (xf hi 12)) 67108863).toNat=(lo.toNat / 4503599627370496+hi.toNat*4096 % 18446744073709551616) % 67108864:=by rw [yH,p2]
 have q3:(xk (yp hi 14) 67108863).toNat=hi.toNat / 16384 % 67108864:=by rw [yH,yx]
 refine ⟨⟨rfl,fun i hi2=>?_⟩,?_⟩
 ·match i,hi2 with
  | 0,_=>show (xk _ _).toNat < _;omega
  | 1,_=>show (xk _ _).toNat < _;omega
  | 2,_=>show (xk _ _).toNat < _;omega
  | 3,_=>show (xk _ _).toNat < _;omega
  | 4,_=>show (wi _ _).toNat < _;omega
 ·have hd:∀ x0 x1 x2 x3 x4:UInt64,xA [x0,x1,x2,x3,x4]=x0.toNat+67108864*x1.toNat+4503599627370496*x2.toNat+302231454903657293676544*x3.toNat+20282409603651670423947251286016*x4.toNat:=fun _ _ _ _ _=>rfl
  unfold ofL
  rw [hd,q0,q1,q2,q3,p4]
  omega
def zf4 (w:List UInt64):UInt64:=wi (wi (at64 w 0) (xf (at64 w 1) 26)) (xf (at64 w 2) 52)
def zf5 (w:List UInt64):UInt64:=wi (wi (yp (at64 w 2) 12) (xf (at64 w 3) 14)) (xf (at64 w 4) 40)
theorem zka {w:List UInt64} (h:vV w):zf4 w=wF (xA w)∧zf5 w=wF (xA w / 18446744073709551616):=by
 have h0:=h.2 0 (by omega)
 have h1:=h.2 1 (by omega)
 have h2:=h.2 2 (by omega)
 have h3:=h.2 3 (by omega)
 have h4:=h.2 4 (by omega)
 have s1:(xf (at64 w 1) 26).toNat=(at64 w 1).toNat*67108864:=by rw [qU];show _*67108864 % _=_;omega
 have s2:(xf (at64 w 2) 52).toNat=(at64 w 2).toNat*4503599627370496 % 18446744073709551616:=by rw [qU]
 have s3:(xf (at64 w 3) 14).toNat=(at64 w 3).toNat*16384:=by rw [qU];show _*16384 % _=_;omega
 have s4:(xf (at64 w 4) 40).toNat=(at64 w 4).toNat*1099511627776 % 18446744073709551616:=by rw [qU]
 have s5:(yp (at64 w 2) 12).toNat=(at64 w 2).toNat / 4096:=yx _ _
 have o1:(wi (at64 w 0) (xf (at64 w 1) 26)).toNat=(at64 w 0).toNat+(at64 w 1).toNat*67108864:=by
  rw [jx _ _ 26 (by show _ < 67108864;exact h0) (by rw [s1];show _*67108864 % 67108864=0;omega),s1]
 have o2:(wi (yp (at64 w 2) 12) (xf (at64 w 3) 14)).toNat=(at64 w 2).toNat / 4096+(at64 w 3).toNat*16384:=by
  rw [jx _ _ 14 (by rw [s5];show _ < 16384;omega) (by rw [s3];show _*16384 % 16384=0;omega),s3,s5]
 constructor
 ·apply uL.1
  unfold zf4
  rw [jx _ _ 52 (by rw [o1];show _ < 4503599627370496;omega) (by rw [s2];show _ % 18446744073709551616 % 4503599627370496=0;omega),o1,s2,bJ]
  unfold xA
  show _=_ % 18446744073709551616
  omega
 ·apply uL.1
  unfold zf5
  rw [jx _ _ 40 (by rw [o2];show _ < 1099511627776;omega) (by rw [s4];show _ % 18446744073709551616 % 1099511627776=0;omega),o2,s4,bJ]
  unfold xA
  show _=_ % 18446744073709551616
  omega
def leN (b:List UInt8):Nat:=(pJ b 0).toNat+18446744073709551616*(pJ b 8).toNat
def Z7 (n:Nat):List UInt8:=zz (wF n)++zz (wF (n / 18446744073709551616))
theorem YA (n:Nat):(Z7 n).length=16:=by simp [Z7,zz]
end Go.pI
namespace Go.zkV
open Ops Oct Gf Trn Aes Ezt
def QU (f:Nat→UInt8):Nat→Nat
 | 0=>0
 | k+1=>QU f k+(f k).toNat*2 ^ (8*k)
theorem KN (f:Nat→UInt8):∀ k,QU f k < 2 ^ (8*k)
 | 0=>by simp [QU]
 | k+1=>by
  have h1:=KN f k
  have h2:=(f k).toNat_lt
  unfold QU
  rw [show 8*(k+1)=8*k+8 by omega,bA]
  have:(f k).toNat*2 ^ (8*k)≤255*2 ^ (8*k):=uP _ (by omega)
  omega
theorem zgJ {a x n:Nat} (h:a < 2 ^ n):a ||| x*2 ^ n=a+x*2 ^ n:=by
 have:=Nat.shiftLeft_add_eq_or_of_lt h x
 rw [Nat.shiftLeft_eq] at this
 rw [mJ,← this,fI]
theorem XJ (f:Nat→UInt8):∀ k,k≤8→(Z9 f k).toNat=QU f k
 | 0,_=>rfl
 | k+1,hk=>by
  have ih:=XJ f k (by omega)
  have h1:=KN f k
  have h2:=(f k).toNat_lt
  unfold Z9 QU
  show (Z9 f k ||| xf (Xl (f k)) (8*k)).toNat=_
  rw [lN,ih]
  have e1:(Xl (f k)).toNat=(f k).toNat:=by unfold Xl;exact uM (by show _ < 18446744073709551616;omega)
  have h3:(f k).toNat*2 ^ (8*k) < 2 ^ 64:=by
   have h4:(f k).toNat*2 ^ (8*k)≤255*2 ^ (8*k):=uP _ (by omega)
   have h5:(2:Nat) ^ (8*k)≤2 ^ 56:=Nat.pow_le_pow_right (by omega) (by omega)
   have h6:(255:Nat)*2 ^ 56 < 2 ^ 64:=by decide
   omega
  have e2:(xf (Xl (f k)) (8*k)).toNat=(f k).toNat*2 ^ (8*k):=by
   unfold xf
   rw [e1]
   exact uM h3
  rw [e2,zgJ h1]
theorem QV (f:Nat→UInt8) (j:Nat):∀ k,j < k→QU f k / 2 ^ (8*j) % 256=(f j).toNat
 | 0,h=>by omega
 | k+1,h=>by
  unfold QU
  have h2:=(f j).toNat_lt
  by_cases e:j=k
  ·subst e
   rw [gY _ _ (uT _),Nat.div_eq_of_lt (KN f j),bH]
   exact dw h2
  ·have ih:=QV f j k (by omega)
   obtain ⟨d,hd⟩:∃ d,k=j+1+d:=⟨k - (j+1),by omega⟩
   have e1:(f k).toNat*2 ^ (8*k)=((f k).toNat*2 ^ (8*d)*256)*2 ^ (8*j):=by
    rw [show (2:Nat) ^ (8*k)=2 ^ (8*d)*256*2 ^ (8*j) by rw [hd,show 8*(j+1+d)=8*d+8+8*j by omega,bA,bA]]
    simp only [Nat.mul_assoc]
   rw [e1,gY _ _ (uT _),dL,ih]
theorem zae (x:UInt32):(Xk x).toNat=x.toNat % 256:=by unfold Xk;exact dx
theorem zco (x:UInt32) (n:Nat):(Y5 x n).toNat=x.toNat / 2 ^ n:=by
 unfold Y5
 exact uy (cK (dP _ _) x.toNat_lt)
def jg (n:UInt32) (j:Nat):UInt8:=Xk (Y5 n (8*j))
theorem YV (n:UInt32) (j:Nat):(jg n j).toNat=n.toNat / 2 ^ (8*j) % 256:=by unfold jg;rw [zae,zco]
theorem Kp (n:UInt32) {j:Nat} (h:j < 4):at8 (nz n) j=jg n j:=nL (by simp [nz,jg,h])
theorem zhh (b:List UInt8) (at':Nat):(yU b at').toNat=QU (fun k=>at8 b (at'+k)) 4:=by
 unfold yU yX
 rw [XJ _ _ (by omega)]
 exact uy (KN _ 4)
theorem ze0 (b:List UInt8) (at':Nat) {j:Nat} (h:j < 4):jg (yU b at') j=at8 b (at'+j):=by
 apply fP.1
 rw [YV,zhh,QV _ j 4 h]
theorem kT (a b:UInt32) (j:Nat):jg (y6 a b) j=ya (jg a j) (jg b j):=by
 apply fP.1
 show _=(jg a j ^^^ jg b j).toNat
 rw [lW,YV,YV,YV]
 show (a ^^^ b).toNat / _ % 256=_
 rw [UInt32.toNat_xor]
 apply Nat.eq_of_testBit_eq
 intro i
 rw [gm,show (256:Nat)=2 ^ 8 from rfl,dS,dS,dS,dU,dU,dU,gm]
 cases decide (i < 8) <;> simp
theorem JK (a b:UInt32):y6 a b=y6 b a:=UInt32.xor_comm a b
theorem kU (a b c:UInt32):y6 (y6 a b) c=y6 a (y6 b c):=UInt32.xor_assoc a b c
theorem ze1 (a b c d:UInt32):y6 (y6 a b) (y6 c d)=y6 (y6 a c) (y6 b d):=by
 rw [kU,← kU b c d,JK b c,kU c b d,← kU]
instance:Std.Associative y6:=⟨kU⟩
instance:Std.Commutative y6:=⟨JK⟩
theorem JL (a:UInt32):y6 a a=0:=UInt32.xor_self
theorem JM (a:UInt32):y6 a 0=a:=UInt32.xor_zero
theorem vW (a:UInt32):y6 0 a=a:=UInt32.zero_xor
def Xf (e:Nat→UInt32) (x:Nat):Nat→UInt32
 | 0=>0
 | k+1=>y6 (Xf e x k) (if x.testBit k then e k else 0)
theorem Wq (e:Nat→UInt32) (x y:Nat):∀ k,Xf e (x ^^^ y) k=y6 (Xf e x k) (Xf e y k)
 | 0=>(JL 0).symm
 | k+1=>by
  unfold Xf
  rw [Wq e x y k,ze1,gm]
  congr 1
  cases x.testBit k <;> cases y.testBit k <;> simp [JL,JM,vW]
theorem zf6 {f:UInt8→UInt32} (h:∀ n,n < 256→f (VW n)=Xf (fun i=>f (VW (2 ^ i))) n 8) (a b:UInt8):f (ya a b)=y6 (f a) (f b):=by
 have e:∀ x:UInt8,f x=Xf (fun i=>f (VW (2 ^ i))) x.toNat 8:=fun x=>by
  have:=h x.toNat x.toNat_lt
  rwa [uO] at this
 rw [e (ya a b),e a,e b]
 show Xf _ (a ^^^ b).toNat 8=_
 rw [lW,Wq]
def QW (r:Nat) (y:UInt8):UInt32:=Xn Trn.mixes r y
def Qj (r:Nat) (y:UInt8):UInt32:=Xn Trn.unmixes r y
theorem zkb (r:Nat) (hr:r < 4) (a b:UInt8):QW r (ya a b)=y6 (QW r a) (QW r b) :=
 zf6 ((by decide +kernel:∀ r,r < 4→∀ n,n < 256→QW r (VW n)=Xf (fun i=>QW r (VW (2 ^ i))) n 8) r hr) a b
theorem zkc (r:Nat) (hr:r < 4) (a b:UInt8):Qj r (ya a b)=y6 (Qj r a) (Qj r b) :=
 zf6 ((by decide +kernel:∀ r,r < 4→∀ n,n < 256→Qj r (VW n)=Xf (fun i=>Qj r (VW (2 ^ i))) n 8) r hr) a b
def zeS (x:UInt8):UInt8:=at8 boxes x.toNat
def JN (x:UInt8):UInt8:=at8 boxes (256+x.toNat)
theorem zhi (x:UInt8):JN (zeS x)=x:=zd3 (p:=fun x=>JN (zeS x)=x) (by decide +kernel) x
theorem zhj (x:UInt8):zeS (JN x)=x:=zd3 (p:=fun x=>zeS (JN x)=x) (by decide +kernel) x
theorem Qk {i:Nat} (h:i < 2048):yR (entries boxes) i=entry boxes i:=by
 unfold yR entries
 simp [bT,h]
theorem zgK (r:Nat) (hr:r < 4) (x:UInt8):tab r x=QW r (zeS x):=by
 have hx:=x.toNat_lt
 unfold tab
 rw [Qk (by omega)]
 unfold entry
 rw [if_pos (by omega),show (256*r+x.toNat) / 256=r by omega,show (256*r+x.toNat) % 256=x.toNat by omega]
 rfl
theorem zkd (r:Nat) (hr:r < 4) (x:UInt8):zcM r x=Qj r x:=by
 have hx:=x.toNat_lt
 unfold zcM
 rw [Qk (by omega)]
 unfold entry
 rw [if_neg (by omega),show (1024+256*r+x.toNat - 1024) / 256=r by omega,show (1024+256*r+x.toNat) % 256=x.toNat by omega,uO]
 rfl
def xQ (f:Nat→UInt8→UInt32) (s:List UInt8) (c:Nat):Nat→UInt32
 | 0=>0
 | r+1=>y6 (xQ f s c r) (f r (at8 s (r+4*c)))
def QX (f:Nat→UInt8→UInt32) (w:UInt32):UInt32:=y6 (y6 (y6 (y6 0 (f 0 (jg w 0))) (f 1 (jg w 1))) (f 2 (jg w 2))) (f 3 (jg w 3))
def Add (f:Nat→UInt8→UInt32):Prop:=∀ r,r < 4→∀ a b,f r (ya a b)=y6 (f r a) (f r b)
theorem addM:Add QW:=fun r hr a b=>zkb r hr a b
theorem addA:Add Qj:=fun r hr a b=>zkc r hr a b
theorem Ql {f:Nat→UInt8→UInt32} (h:Add f) (a b:UInt32):QX f (y6 a b)=y6 (QX f a) (QX f b):=by
 unfold QX
 rw [kT,kT,kT,kT,h 0 (by omega),h 1 (by omega),h 2 (by omega),h 3 (by omega)]
 rw [vW,vW,vW]
 ac_rfl
def place (r:Nat) (y:UInt8):UInt32:=Q3 (KW y) (8*r)
theorem zmn (r:Nat) (hr:r < 4) (y:UInt8):QX Qj (QW r y)=place r y:=by
 have:=(by decide +kernel:∀ r,r < 4→∀ n,n < 256→QX Qj (QW r (VW n))=place r (VW n)) r hr y.toNat y.toNat_lt
 rwa [uO] at this
theorem zmo (r:Nat) (hr:r < 4) (y:UInt8):QX QW (Qj r y)=place r y:=by
 have:=(by decide +kernel:∀ r,r < 4→∀ n,n < 256→QX QW (Qj r (VW n))=place r (VW n)) r hr y.toNat y.toNat_lt
 rwa [uO] at this
theorem ZO (r:Nat) (hr:r < 4) (j:Nat) (hj:j < 4) (y:UInt8):jg (place r y) j=if j=r then y else 0:=by
 have:=(by decide +kernel:∀ r,r < 4→∀ j,j < 4→∀ n,n < 256→jg (place r (VW n)) j=if j=r then (VW n) else 0) r hr j hj y.toNat y.toNat_lt
 rwa [uO] at this
def jh (f:Nat→UInt8→UInt32) (s:List UInt8):List UInt8:=(uf 16).map fun i=>jg (xQ f s (i / 4) 4) (i % 4)
theorem ji (f:Nat→UInt8→UInt32) (s:List UInt8):(jh f s).length=16:=by simp [jh]
theorem wE (f:Nat→UInt8→UInt32) (s:List UInt8) {i:Nat} (h:i < 16):at8 (jh f s) i=jg (xQ f s (i / 4) 4) (i % 4):=nL (by simp [jh,h])
theorem ze2 (f g:Nat→UInt8→UInt32) (s:List UInt8) {c:Nat} (hc:c < 4):xQ f (jh g s) c 4=QX f (xQ g s c 4):=by
 have e:∀ r,r < 4→at8 (jh g s) (r+4*c)=jg (xQ g s c 4) r:=fun r hr=>by
  rw [wE _ _ (by omega),show (r+4*c) / 4=c by omega,show (r+4*c) % 4=r by omega]
 simp only [xQ,e 0 (by omega),e 1 (by omega),e 2 (by omega),e 3 (by omega),QX]
theorem Wr {f g:Nat→UInt8→UInt32} (hf:Add f) (hz:QX f 0=0) (h:∀ r,r < 4→∀ y,QX f (g r y)=place r y) {s:List UInt8} (hs:s.length=16):jh f (jh g s)=s:=by
 refine Yl (ji _ _) hs fun i hi=>?_
 have hc:i / 4 < 4:=by omega
 rw [wE _ _ hi,ze2 _ _ _ hc]
 have e:QX f (xQ g s (i / 4) 4)=y6 (y6 (y6 (place 0 (at8 s (0+4*(i / 4)))) (place 1 (at8 s (1+4*(i / 4))))) (place 2 (at8 s (2+4*(i / 4))))) (place 3 (at8 s (3+4*(i / 4)))):=by
  simp only [xQ]
  rw [Ql hf,Ql hf,Ql hf,Ql hf,hz,vW,h 0 (by omega),h 1 (by omega),h 2 (by omega),h 3 (by omega)]
 rw [e,kT,kT,kT,ZO 0 (by omega) _ (by omega),ZO 1 (by omega) _ (by omega),ZO 2 (by omega) _ (by omega),ZO 3 (by omega) _ (by omega)]
 obtain h0 | h0 | h0 | h0:i % 4=0∨i % 4=1∨i % 4=2∨i % 4=3:=by omega
 all_goals rw [h0];simp [zg0,Ezt.sF];congr 1;omega
def zaf (b:List UInt8):List UInt8:=(uf 16).map (Zw b)
theorem YB (b:List UInt8):(zaf b).length=16:=by simp [zaf]
theorem JO (b:List UInt8) {i:Nat} (h:i < 16):at8 (zaf b) i=zeS (at8 b (ye (i % 4) (i / 4))):=nL (by simp [zaf,h];rfl)
theorem Kq (b:List UInt8) {i:Nat} (h:i < 16):at8 (qg b) i=JN (at8 b (i % 4+4*((i / 4+4 - i % 4) % 4))):=nL (by simp [qg,h];rfl)
theorem Qn {b:List UInt8} (hb:b.length=16):qg (zaf b)=b:=by
 refine Yl (qi _) hb fun i hi=>?_
 rw [Kq _ hi,JO _ (by omega),zhi]
 congr 1
 unfold ye
 omega
theorem Qo {b:List UInt8} (hb:b.length=16):zaf (qg b)=b:=by
 refine Yl (YB _) hb fun i hi=>?_
 rw [JO _ hi,Kq _ (by unfold ye;omega),zhj]
 congr 1
 unfold ye
 omega
theorem JP (b key:List UInt8) {c:Nat} (hc:c < 4):∀ r,r≤4→nJ b key c r=y6 (yU key (4*c)) (xQ QW (zaf b) c r)
 | 0,_=>(JM _).symm
 | r+1,h=>by
  unfold nJ xQ
  rw [JP b key hc r (by omega),zgK r (by omega),JO _ (by omega),show (r+4*c) % 4=r by omega,show (r+4*c) / 4=c by omega,kU]
theorem zcp (b key:List UInt8):round b key=both (jh QW (zaf b)) key:=by
 refine Yl (ve _ _) (zB _ _) fun i hi=>?_
 have e:at8 (round b key) i=Zv b key i:=nL (by simp [round,hi])
 rw [e,kg _ _ _ hi,wE _ _ hi]
 unfold Zv
 rw [Kp _ (by omega),JP b key (by omega) 4 (by omega),kT,ze0 _ _ (by omega),V4]
 congr 2
 omega
theorem Qp (b:List UInt8) (c:Nat):∀ r,r≤4→qh b c r=xQ Qj b c r
 | 0,_=>rfl
 | r+1,h=>by
  unfold qh xQ
  rw [Qp b c r (by omega),zkd r (by omega)]
theorem JQ (b key:List UInt8):vd b key=qg (jh Qj (both b key)):=by
 have e:(uf 16).map (xT (both b key))=jh Qj (both b key):=by
  refine Yl (by rw [yf,lM]) (ji _ _) fun i hi=>?_
  have e:at8 ((uf 16).map (xT (both b key))) i=xT (both b key) i:=nL (by rw [uV,dh hi];rfl)
  rw [e,wE _ _ hi]
  unfold xT
  rw [Kp _ (by omega),Qp _ _ 4 (by omega)]
 show qg ((uf 16).map (xT (both b key)))=_
 rw [e]
theorem VI {b:List UInt8} (hb:b.length=16) (key:List UInt8):vd (round b key) key=b:=by
 rw [JQ,zcp,yr (ji _ _),Wr addA (by decide +kernel) zmn (YB _),Qn hb]
theorem VJ {b:List UInt8} (hb:b.length=16) (key:List UInt8):round (vd b key) key=b:=by
 rw [zcp,JQ,Qo (ji _ _),Wr addM (by decide +kernel) zmo (zB _ _),yr hb]
theorem KO (b key:List UInt8):last b key=both (zaf b) key:=rfl
theorem zcq {b:List UInt8} (hb:b.length=16) (key:List UInt8):jZ (last b key) key=b:=by
 unfold jZ
 rw [KO,yr (YB _),Qn hb]
theorem zcr {b:List UInt8} (hb:b.length=16) (key:List UInt8):last (jZ b key) key=b:=by
 rw [KO]
 unfold jZ
 rw [Qo (zB _ _),yr hb]
theorem Kr (b:List UInt8) (ks:List (List UInt8)) (k:List UInt8):rounds b (ks++[k])=round (rounds b ks) k:=by simp [rounds]
theorem JR (ks:List (List UInt8)):∀ (m:Nat) (b:List UInt8),b.length=16→m+1≤ks.length→Zf ks (m+1) (rounds b ((ks.drop 1).take m))=b
 | 0,b,hb,_=>by simp [rounds,Zf]
 | m+1,b,hb,h=>by
  have e:(ks.drop 1).take (m+1)=(ks.drop 1).take m++[key ks (m+1)]:=by
   rw [fA,dJ,fI 1 m,kB (by omega)]
   rfl
  rw [e,Kr,Xo _ _ _ (by omega),show m+1+1 - 1=m+1 by omega,VI (qG _ _ hb),JR ks m b hb (by omega)]
theorem JS (ks:List (List UInt8)):∀ (m:Nat) (b:List UInt8),b.length=16→m+1≤ks.length→rounds (Zf ks (m+1) b) ((ks.drop 1).take m)=b
 | 0,b,hb,_=>by simp [rounds,Zf]
 | m+1,b,hb,h=>by
  have e:(ks.drop 1).take (m+1)=(ks.drop 1).take m++[key ks (m+1)]:=by
   rw [fA,dJ,fI 1 m,kB (by omega)]
   rfl
  rw [e,Kr,Xo _ _ _ (by omega),show m+1+1 - 1=m+1 by omega,JS ks m _ (kY _ _) (by omega),VJ hb]
theorem Qq (ks:List (List UInt8)):∀ (m:Nat) (b:List UInt8),b.length=16→(Zf ks m b).length=16
 | 0,b,h=>h
 | 1,b,h=>h
 | m+2,b,h=>by
  unfold Zf
  exact Qq ks (m+1) _ (kY _ _)
theorem zf7 {ks:List (List UInt8)} (hk:2≤ks.length) {b:List UInt8} (hb:b.length=16):dec ks (enc ks b)=b:=by
 unfold dec enc
 rw [zcq (qG _ _ (zB _ _))]
 have:=JR ks (ks.length - 2) (both b (key ks 0)) (zB _ _) (by omega)
 rw [show ks.length - 2+1=ks.length - 1 by omega] at this
 rw [this,yr hb]
theorem zf8 {ks:List (List UInt8)} (hk:2≤ks.length) {b:List UInt8} (hb:b.length=16):enc ks (dec ks b)=b:=by
 unfold dec enc
 rw [yr (Qq _ _ _ (jC _ _))]
 have:=JS ks (ks.length - 2) (jZ b (key ks (ks.length - 1))) (jC _ _) (by omega)
 rw [show ks.length - 2+1=ks.length - 1 by omega] at this
 rw [this,zcr hb]
end Go.zkV
namespace Go.Adi
open Ops Oct Trn Blake pI Cha Aes zkV
def nat (p:UInt64×UInt64):Nat:=p.1.toNat+18446744073709551616*p.2.toNat
def wd (n:Nat):UInt64×UInt64:=(wF n,wF (n / 18446744073709551616))
def xo (b:List UInt8):UInt64×UInt64:=(pJ b 0,pJ b 8)
def z7 (p:UInt64×UInt64):List UInt8:=zz p.1++zz p.2
def nY (p q:UInt64×UInt64):UInt64×UInt64:=wd (nat p+nat q)
def qp (p q:UInt64×UInt64):UInt64×UInt64:=wd (nat p+340282366920938463463374607431768211456 - nat q)
theorem zZ (p:UInt64×UInt64):(z7 p).length=16:=by simp [z7,zz]
theorem zag (p:UInt64×UInt64):nat p < 340282366920938463463374607431768211456:=by
 have h1:=p.1.toNat_lt
 have h2:=p.2.toNat_lt
 unfold nat
 omega
theorem zf9 (n:Nat):(wd n).1.toNat=n % 18446744073709551616:=bJ
theorem zga (n:Nat):(wd n).2.toNat=n / 18446744073709551616 % 18446744073709551616:=bJ
theorem zah (n:Nat):nat (wd n)=n % 340282366920938463463374607431768211456:=by
 unfold nat
 rw [zf9,zga]
 omega
theorem zai (p:UInt64×UInt64):wd (nat p)=p:=by
 have h1:=p.1.toNat_lt
 have h2:=p.2.toNat_lt
 apply Prod.ext
 ·apply uL.1
  rw [zf9]
  unfold nat
  omega
 ·apply uL.1
  rw [zga]
  unfold nat
  omega
theorem zgL {n m:Nat} (h:n % 340282366920938463463374607431768211456=m % 340282366920938463463374607431768211456):wd n=wd m:=by
 rw [← zai (wd n),← zai (wd m),zah,zah,h]
theorem JT (p q:UInt64×UInt64):qp (nY p q) q=p:=by
 have h1:=zag p
 have h2:=zag q
 conv=>rhs;rw [← zai p]
 unfold qp nY
 rw [zah]
 apply zgL
 omega
theorem JU (p q:UInt64×UInt64):nY (qp p q) q=p:=by
 have h1:=zag p
 have h2:=zag q
 conv=>rhs;rw [← zai p]
 unfold qp nY
 rw [zah]
 apply zgL
 omega
theorem zgb (f:Nat→UInt8) (a:Nat):∀ k,(∀ j,j < k→(f j).toNat=a / 2 ^ (8*j) % 256)→QU f k=a % 2 ^ (8*k)
 | 0,_=>by simp [QU,Nat.mod_one]
 | k+1,h=>by
  unfold QU
  rw [zgb f a k (fun j hj=>h j (by omega)),h k (by omega),show 8*(k+1)=8*k+8 by omega,bA,Nat.mod_mul,Nat.mul_comm (a / _ % 256)]
theorem Ks (n:UInt64) {j:Nat} (h:j < 8):at8 (zz n) j=Xm (yp n (8*j)):=nL (by simp [zz,h])
theorem Ws (n:UInt64) (j:Nat):(Xm (yp n (8*j))).toNat=n.toNat / 2 ^ (8*j) % 256:=by
 unfold Xm
 rw [yx]
 exact dx
theorem Wt (b:List UInt8) (at':Nat):(pJ b at').toNat=QU (fun k=>at8 b (at'+k)) 8:=XJ _ _ (by omega)
theorem zcs {a b:List UInt8} {i:Nat} (h:i < a.length):at8 (a++b) i=at8 a i:=by simp [at8,bT,bO h]
theorem Wu {a b:List UInt8} {i:Nat}:at8 (a++b) (a.length+i)=at8 b i:=by
 simp only [at8,bT]
 rw [List.getElem?_append_right (by omega)]
 congr 3
 omega
theorem zct (n:UInt64) (a b:List UInt8):pJ (a++zz n++b) a.length=n:=by
 apply uL.1
 rw [Wt,zgb _ n.toNat 8 (fun j hj=>by
  rw [List.append_assoc,Wu,zcs (by rw [zK];exact hj),Ks n hj,Ws])]
 exact dw n.toNat_lt
theorem ZP (p:UInt64×UInt64):xo (z7 p)=p:=by
 unfold xo z7
 have h1:=zct p.1 [] (zz p.2)
 have h2:=zct p.2 (zz p.1) []
 rw [uo,List.length_nil] at h1
 rw [bC,zK] at h2
 rw [h1,h2]
theorem Xg (b:List UInt8) (at':Nat) {j:Nat} (hj:j < 8):at8 (zz (pJ b at')) j=at8 b (at'+j):=by
 apply fP.1
 rw [Ks _ hj,Ws,Wt,QV _ j 8 hj]
theorem ZQ {b:List UInt8} (h:b.length=16):z7 (xo b)=b:=by
 apply uA
 intro i
 rcases bg i 16 with hi | hi
 ·rw [Oct.mR (by rw [zZ];exact hi:i < (z7 (xo b)).length),Oct.mR (by omega:i < b.length)]
  congr 1
  unfold z7 xo
  rcases bg i 8 with h8 | h8
  ·rw [zcs (by rw [zK];exact h8),Xg _ _ h8,bH]
  ·obtain ⟨j,rfl⟩:∃ j,i=8+j:=⟨i - 8,by omega⟩
   have e:=Wu (a:=zz (pJ b 0)) (b:=zz (pJ b 8)) (i:=j)
   rw [zK] at e
   rw [e,Xg _ _ (by omega)]
 ·rw [qc (by rw [zZ];exact hi),qc (by omega)]
def zmp (b:List UInt8) (i:Nat):UInt8:=if i % 4=3 then rE (at8 b i) 15 else if i % 4=0∧i≠0 then rE (at8 b i) 252 else at8 b i
def j6 (b:List UInt8):List UInt8:=(uf 16).map (zmp b)
theorem VK (b:List UInt8):(j6 b).length=16:=by simp [j6]
def vX (r v n:Nat):Nat:=(v+n) % PP*r % PP
def ZR (b:List UInt8):Nat:=(leN b+340282366920938463463374607431768211456) % PP
def JV (b:List UInt8):Nat:=leN (b++[1]++zf (15 - b.length)) % PP
theorem JW (r v n:Nat):vX r v n < PP:=ma _ (by decide)
def yO (r v:Nat) (d:List UInt8):Nat×List UInt8:=if h:16≤d.length then yO r (vX r v (ZR (d.take 16))) (d.drop 16) else (v,d)
termination_by d.length
decreasing_by simp;omega
theorem Wv {r v:Nat} {d:List UInt8} (h:¬ 16≤d.length):yO r v d=(v,d):=by
 unfold yO
 rw [dif_neg h]
theorem Ww {r v:Nat} {d:List UInt8} (h:16≤d.length):yO r v d=yO r (vX r v (ZR (d.take 16))) (d.drop 16):=by
 conv=>lhs;unfold yO
 rw [dif_pos h]
theorem jV (r:Nat):∀ (n v:Nat) (d:List UInt8),d.length≤n→v < PP→(yO r v d).1 < PP∧(yO r v d).2.length < 16
 | n,v,d,h,hv=>by
  by_cases h16:16≤d.length
  ·rw [Ww h16]
   match n,h with
   | 0,h=>omega
   | n+1,h=>exact jV r n _ _ (by rw [XQ];omega) (JW _ _ _)
  ·rw [Wv h16]
   exact ⟨hv,Nat.lt_of_not_le h16⟩
def qq (r v:Nat) (d:List UInt8):Nat:=if d.length=0 then v else vX r v (JV d)
theorem zhk {r v:Nat} {d:List UInt8} (h:v < PP):qq r v d < PP:=by
 unfold qq
 split
 ·exact h
 ·exact JW _ _ _
def rOf (key:List UInt8):Nat:=leN (j6 key) % PP
theorem zke (key:List UInt8):rOf key < PP:=ma _ (by decide)
def Za (key:List UInt8):List UInt32:=(uf 268).map fun i=>yU key (4*i)
theorem VL (key:List UInt8):(Za key).length=268:=by simp [Za]
def Qr (a k b l:UInt32):UInt64:=xP (yI (jI a k)) (yI (jI b l))
def JX (ws:List UInt32) (b:List UInt8) (u p:Nat):UInt64 :=
 zy (Qr (yU b (16*u)) (yR ws (4*u+4*p)) (yU b (16*u+8)) (yR ws (4*u+4*p+2))) (Qr (yU b (16*u+4)) (yR ws (4*u+4*p+1)) (yU b (16*u+12)) (yR ws (4*u+4*p+3)))
def Zr (ws:List UInt32) (b:List UInt8):Nat→List UInt64
 | 0=>[0,0,0,0]
 | u+1=>(uf 4).map fun p=>zy (at64 (Zr ws b u) p) (JX ws b u p)
theorem jW (ws:List UInt32) (b:List UInt8):∀ u,(Zr ws b u).length=4
 | 0=>rfl
 | u+1=>by simp [Zr]
def nh (ws:List UInt32) (b:List UInt8):List UInt8:=(Zr ws b (b.length / 16)).flatMap zz
theorem qy:∀ l:List UInt64,(l.flatMap zz).length=8*l.length
 | []=>rfl
 | x::l=>by rw [List.flatMap_cons,q8,qy l,zK,uh];omega
theorem zhl (ws:List UInt32) (b:List UInt8):(nh ws b).length=32:=by
 unfold nh
 rw [qy,jW]
def vY (kt mU:List UInt8) (n:Nat):UInt64×UInt64 :=
 xo (Z7 (qq (rOf kt) (yO (rOf kt) (yO (rOf kt) 0 (z7 (wd (8*n)))).1 ((yO (rOf kt) 0 (z7 (wd (8*n)))).2++mU)).1 (yO (rOf kt) (yO (rOf kt) 0 (z7 (wd (8*n)))).1 ((yO (rOf kt) 0 (z7 (wd (8*n)))).2++mU)).2))
def qz (ws:List UInt32) (r v:Nat) (p d:List UInt8):Nat×List UInt8 :=
 if h:d.length=0 then (v,p) else qz ws r (yO r v (p++nh ws (d.take 1024))).1 (yO r v (p++nh ws (d.take 1024))).2 (d.drop 1024)
termination_by d.length
decreasing_by simp;omega
def vZ (km:List UInt8) (ws:List UInt32) (b:List UInt8):UInt64×UInt64 :=
 xo (Z7 (qq (rOf km) (qz ws (rOf km) 0 [] (kF b 16)).1 (qz ws (rOf km) 0 [] (kF b 16)).2))
structure kV where
 key:List UInt8
 ks:List (List UInt8)
 kt:List UInt8
 km:List UInt8
 ws:List UInt32
def zcu (k:kV) (mU b:List UInt8):UInt64×UInt64:=nY (vY k.kt mU b.length) (vZ k.km k.ws b)
def zaj (key:List UInt8):List UInt8:=jT key (1::zf 23) 12 (zf 1136)
def zkf (key:List UInt8):kV:=⟨key,expand 8 true ((zaj key).take 32),block ((zaj key).drop 32),block ((zaj key).drop 48),Za ((zaj key).drop 64)⟩
def jj (k:kV) (m:UInt64×UInt64) (b:List UInt8):List UInt8:=jT k.key (z7 m++[1]++zf 7) 12 b
theorem YC (k:kV) (m:UInt64×UInt64) (b:List UInt8):(jj k m b).length=b.length:=vy _ _ _ _
theorem Xh (k:kV) (m:UInt64×UInt64) (b:List UInt8):jj k m (jj k m b)=b:=zcj _ _ _ _
def jF (k:kV) (mU m:List UInt8):UInt64×UInt64:=xo (enc k.ks (z7 (nY (xo (m.drop (m.length - 16))) (zcu k mU (m.take (m.length - 16))))))
def XK (k:kV) (mU m:List UInt8):List UInt8 :=
 jj k (jF k mU m) (m.take (m.length - 16))++z7 (qp (jF k mU m) (zcu k mU (jj k (jF k mU m) (m.take (m.length - 16)))))
def jG (k:kV) (mU m:List UInt8):UInt64×UInt64:=nY (xo (m.drop (m.length - 16))) (zcu k mU (m.take (m.length - 16)))
def XL (k:kV) (mU m:List UInt8):List UInt8 :=
 jj k (jG k mU m) (m.take (m.length - 16))++z7 (qp (xo (dec k.ks (z7 (jG k mU m)))) (zcu k mU (jj k (jG k mU m) (m.take (m.length - 16)))))
theorem zcv (k:kV) (mU:List UInt8) {m:List UInt8} (h:16≤m.length):(XK k mU m).length=m.length:=by
 unfold XK
 rw [q8,YC,zZ,Ku]
 omega
theorem zcw (k:kV) (mU:List UInt8) {m:List UInt8} (h:16≤m.length):(XL k mU m).length=m.length:=by
 unfold XL
 rw [q8,YC,zZ,Ku]
 omega
theorem Qs (a:List UInt8) (p:UInt64×UInt64):(a++z7 p).take ((a++z7 p).length - 16)=a:=by
 rw [q8,zZ,fV,List.take_append_of_le_length (xc _),List.take_length]
theorem zcx (a:List UInt8) (p:UInt64×UInt64):(a++z7 p).drop ((a++z7 p).length - 16)=z7 p:=by
 rw [q8,zZ,fV,bP (xc _),List.drop_length,uo]
theorem zhm (k:kV) (hk:2≤k.ks.length) (mU:List UInt8) {m:List UInt8} (h:16≤m.length):XL k mU (XK k mU m)=m:=by
 have hm:jG k mU (XK k mU m)=jF k mU m:=by
  unfold jG XK
  rw [Qs,zcx,ZP,JU]
 have ht:(XK k mU m).take ((XK k mU m).length - 16)=jj k (jF k mU m) (m.take (m.length - 16)):=by
  unfold XK
  rw [Qs]
 unfold XL
 rw [hm,ht,Xh]
 have h16:(m.drop (m.length - 16)).length=16:=by rw [XQ];omega
 have hb:z7 (qp (xo (dec k.ks (z7 (jF k mU m)))) (zcu k mU (m.take (m.length - 16))))=m.drop (m.length - 16):=by
  unfold jF
  rw [ZQ (xJ _ _),zf7 hk (zZ _),ZP,JT,ZQ h16]
 rw [hb,uX]
theorem zhn (k:kV) (hk:2≤k.ks.length) (mU:List UInt8) {m:List UInt8} (h:16≤m.length):XK k mU (XL k mU m)=m:=by
 have hm:jF k mU (XL k mU m)=jG k mU m:=by
  unfold jF XL
  rw [Qs,zcx,ZP,JU,ZQ (kG _ _),zf8 hk (zZ _),ZP]
 have ht:(XL k mU m).take ((XL k mU m).length - 16)=jj k (jG k mU m) (m.take (m.length - 16)):=by
  unfold XL
  rw [Qs]
 unfold XK
 rw [hm,ht,Xh]
 have h16:(m.drop (m.length - 16)).length=16:=by rw [XQ];omega
 have hb:z7 (qp (jG k mU m) (zcu k mU (m.take (m.length - 16))))=m.drop (m.length - 16):=by
  unfold jG
  rw [JT,ZQ h16]
 rw [hb,uX]
theorem zkg (key:List UInt8):2≤(zkf key).ks.length:=by
 show 2≤(expand _ _ _).length
 rw [wJ]
 omega
end Go.Adi

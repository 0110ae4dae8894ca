/-
  Texts of this claim, one behind the other.
-/
import Derived.Test.YtjaioajjfiaheaaGreatDoorR11
import Derived.Test.YtjaioajjfiaheaaGreatDoorR9
import Derived.Test.YtjaioajjfiaheaaGreatDoorR10
import Derived.Test.YtjaioajjfiaheaaGreatDoorR7
import Derived.Test.YtjaioajjfiaheaaGreatDoorR1
import Derived.Test.YtjaioajjfiaheaaGreatDoorR6
import Derived.Lib.Hide
set_option linter.unusedVariables false
set_option linter.unusedSimpArgs false
set_option maxHeartbeats 16000000
set_option maxRecDepth 100000
namespace Go.Oct
open Go.Ops
theorem zqe (a b:UInt8):or8 a b=0↔a=0∧b=0:=by
 unfold or8
 constructor
 ·intro h
  have h1:=congrArg UInt8.toBitVec h
  simp only [UInt8.toBitVec_or,UInt8.toBitVec_ofNat] at h1
  obtain ⟨h2,h3⟩:=BitVec.or_eq_zero_iff.1 h1
  exact ⟨UInt8.toBitVec_inj.1 h2,UInt8.toBitVec_inj.1 h3⟩
 ·rintro ⟨rfl,rfl⟩
  rfl
theorem xor8_zero (a b:UInt8):ya a b=0↔a=b:=by
 unfold ya
 constructor
 ·intro h
  have h1:=congrArg UInt8.toBitVec h
  simp only [UInt8.toBitVec_xor,UInt8.toBitVec_ofNat] at h1
  exact UInt8.toBitVec_inj.1 (BitVec.xor_eq_zero_iff.1 h1)
 ·rintro rfl
  simp
def Seen (a b:List UInt8) (i:Nat) (u:UInt8):Prop:=u=0↔a.take i=b.take i
theorem Seen.zero (a b:List UInt8):Seen a b 0 0:=by simp [Seen]
theorem Seen.step {a b:List UInt8} {i:Nat} {u x y:UInt8} (h:Seen a b i u) (hx:a[i]? = some x) (hy:b[i]? = some y):Seen a b (i+1) (or8 u (ya x y)):=by
 unfold Seen at *
 rw [zqe,xor8_zero,h,List.take_add_one,List.take_add_one,hx,hy]
 have hl:(a.take i).length=(b.take i).length:=by
  have h1:=(List.getElem?_eq_some_iff.1 hx).1
  have h2:=(List.getElem?_eq_some_iff.1 hy).1
  simp;omega
 constructor
 ·rintro ⟨h1,rfl⟩;rw [h1]
 ·intro h1
  obtain ⟨h2,h3⟩:=List.append_inj h1 hl
  simp at h3
  exact ⟨h2,h3⟩
theorem Seen.all {a b:List UInt8} {n:Nat} {u:UInt8} (h:Seen a b n u) (ha:a.length=n) (hb:b.length=n):((u.toNat:Int)==0)=decide (a=b):=by
 unfold Seen at h
 rw [List.take_of_length_le (by omega),List.take_of_length_le (by omega)] at h
 by_cases hab:a=b
 ·rw [h.2 hab];simp [hab]
 ·have hu:u.toNat≠0:=fun e=>hab (h.1 (UInt8.toNat_inj.1 e))
  simp [hab];omega
end Go.Oct
namespace Go.Proofs.YtjaioajjfiaheaaGreatDoor
open Go.RowKit Go.Mem Go.Ops Go.Cells Go.Oct Go.Gf Go.Trn Go.Aes Go.Ring Go.Ezk Go.Ezh Go.Ezt Go.Aez Go.CutP Go.Fl
attribute [local irreducible] zE zN zO zM yu
theorem _root_.Go.Proofs.YtjaioajjfiaheaaGreatDoor.Globals.below {w w':World} (h:Globals w) (hb:Below w.heap.size w w'):Globals w':=by
 have e1:tyAt w' 0=tyAt w 0:=by unfold tyAt;rw [hb.block _ h.mixes.lt]
 have e2:tyAt w' 1=tyAt w 1:=by unfold tyAt;rw [hb.block _ h.unmixes.lt]
 exact ⟨by rw [e1];exact h.mixes.below hb h.mixes.lt,by rw [e2];exact h.unmixes.below hb h.unmixes.lt⟩
theorem yL (w:World) (ao:Option Addr) (n cap:Nat) (bs:List UInt8) (hn:bs.length=n) (hl:zr w ao (bs.map B)):(convert 22 9 (.slice ao n cap)).run Tryz.prog w=.ok (.string (str bs)) w :=
 zd2 (P:=Tryz.prog) w 22 9 5 Tryz.underlying22 Tryz.underlying5 Tryz.underlying9 ao n cap bs hn hl
theorem zp7 (a1 a2:Option Addr) (n1 n2 c1 c2:Nat) (x1 x2:List UInt8) (w:World) (h1:x1.length=n1) (h2:x2.length=n2) (hb:n1≤1000000) (hl1:zr w a1 (x1.map B)) (hl2:zr w a2 (x2.map B)) :
  Calls Tryz.prog 84 #[.slice a1 n1 c1,.slice a2 n2 c2] w fun e w'=>e=.returned (.bool (decide (x1=x2)))∧Below w.heap.size w w':=by
 by_cases he:n1=n2
 ·subst he
  have hd:((n1:Int)==n1)=true:=by simp
  have HL1:=znq hl1
  have HL2:=znq hl2
  have H1:=znq h1
  have H2:=znq h2
  clear hl1 hl2 h1 h2
  go_enter Tryz.func84,Tryz.ntmps84
  go_wp2
  go_loopw [5,14] (fun z c wr=>∃ (i:Nat) (u:UInt8),i≤n1∧c=.int .i64 i∧z=B u∧Hid (Seen x1 x2 i u)∧Hid (Below w.heap.size w wr)) (fun _ c _=>n1 - (intOf c).toNat)
  case atStart=>exact ⟨0,0,by omega,rfl,rfl,znq (Seen.zero _ _),znq (Below.refl _ _)⟩
  case round =>
   obtain ⟨i,u,hi,rfl,rfl,HSE,HB⟩:=hrel
   by_cases hlt:i < n1
   ·obtain ⟨v1,hv1⟩:∃ v1,x1[i]? = some v1:=⟨x1[i]'(by rw [H1.znr];exact hlt),by simp⟩
    obtain ⟨v2,hv2⟩:∃ v2,x2[i]? = some v2:=⟨x2[i]'(by rw [H2.znr];exact hlt),by simp⟩
    obtain ⟨b1,o1,rfl,hc1⟩:=(HL1.znr.below HB.znr) _ _ (zU hv1)
    obtain ⟨b2,o2,rfl,hc2⟩:=(HL2.znr.below HB.znr) _ _ (zU hv2)
    have hc1:=fun (x:zG wr.drew)=>(x.later.cell (p:=⟨b1,o1+i,none⟩) (block_lt_of_cell hc1)).trans hc1
    have hc2:=fun (x:zG wr.drew)=>(x.later.cell (p:=⟨b2,o2+i,none⟩) (block_lt_of_cell hc2)).trans hc2
    have HSE:=znq (HSE.znr.step hv1 hv2)
    clear hv1 hv2
    go_wp2_with fail
    refine zn [0,1,2,3,4,5,6,7,8,9,10,11] (by kernel_rfl) (by kernel_rfl) ?_
    rintro w2 rfl
    refine mqR ?_
    refine zo ?_
    go_wp2
    go_roundw
    case rel=>exact ⟨i+1,_,by omega,by go_num,rfl,HSE,znq HB.znr.drew⟩
    case measure=>simp [intOf];omega
   ·obtain rfl:i=n1:=by omega
    have HD:=HSE.znr.all H1.znr H2.znr
    go_wp2
    go_ret
    exact ⟨rfl,HB.znr⟩
 ·have hd:((n1:Int)==n2)=false:=by simp;omega
  have hne:¬ x1=x2:=by rintro rfl;omega
  clear hl1 hl2 h1 h2
  go_enter Tryz.func84,Tryz.ntmps84
  go_wp2
  go_ret
  exact ⟨by rw [decide_eq_false hne];rfl,Below.refl _ _⟩
end Go.Proofs.YtjaioajjfiaheaaGreatDoor
namespace Go.Prime
open Go.Ops Go.Oct Go.Blake Go.Trn
theorem yH (a:UInt64):(xk a 67108863).toNat=a.toNat % 67108864:=by
 unfold xk
 rw [UInt64.toNat_and]
 show a.toNat &&& 67108863=_
 exact Nat.and_two_pow_sub_one_eq_mod _ 26
theorem yx (a:UInt64) (n:Nat):(yp a n).toNat=a.toNat / 2 ^ n:=by
 unfold yp
 exact UInt64.toNat_ofNat_of_lt' (Nat.lt_of_le_of_lt (Nat.div_le_self _ _) a.toNat_lt)
theorem xg (a b:UInt64) (h:a.toNat+b.toNat < 18446744073709551616):(zy a b).toNat=a.toNat+b.toNat:=by
 unfold zy
 rw [UInt64.toNat_add]
 exact Nat.mod_eq_of_lt h
theorem Yy (a b:UInt64) (h:a.toNat*b.toNat < 18446744073709551616):(xP a b).toNat=a.toNat*b.toNat:=by
 unfold xP
 rw [UInt64.toNat_mul]
 exact Nat.mod_eq_of_lt h
def PP:Nat:=1361129467683753853853498429727072845819
def xA (l:List UInt64):Nat:=(at64 l 0).toNat+67108864*(at64 l 1).toNat+4503599627370496*(at64 l 2).toNat+302231454903657293676544*(at64 l 3).toNat+20282409603651670423947251286016*(at64 l 4).toNat
def q6 (l:List UInt64):Nat→List UInt64×UInt64
 | 0=>(l,0)
 | i+1=>((q6 l i).1.set i (xk (zy (at64 (q6 l i).1 i) (q6 l i).2) 67108863),yp (zy (at64 (q6 l i).1 i) (q6 l i).2) 26)
def carried (l:List UInt64):List UInt64:=(q6 l 5).1.set 0 (zy (at64 (q6 l 5).1 0) (xP 5 (q6 l 5).2))
theorem vT (l:List UInt64):∀ i,(q6 l i).1.length=l.length
 | 0=>rfl
 | i+1=>by rw [q6,List.length_set,vT l i]
theorem vU (l:List UInt64):(carried l).length=l.length:=by rw [carried,List.length_set,vT]
def Zq (l:List UInt64):Prop:=l.length=5∧∀ i,i < 5→(at64 l i).toNat < 1152921504606846976
def vV (l:List UInt64):Prop:=l.length=5∧∀ i,i < 5→(at64 l i).toNat < 67108864
theorem zck {α:Type} {l:List α} (h:l.length=5):∃ a0 a1 a2 a3 a4,l=[a0,a1,a2,a3,a4]:=by
 match l,h with
 | [a0,a1,a2,a3,a4],_=>exact ⟨a0,a1,a2,a3,a4,rfl⟩
theorem vV.loose {l:List UInt64} (h:vV l):Zq l:=⟨h.1,fun i hi=>Nat.lt_trans (h.2 i hi) (by decide)⟩
theorem JJ (a0 a1 a2 a3 a4:UInt64):∃ x1 x2 x3 x4,x1=zy a1 (yp (zy a0 0) 26)∧x2=zy a2 (yp x1 26)∧x3=zy a3 (yp x2 26)∧x4=zy a4 (yp x3 26) ∧
  carried [a0,a1,a2,a3,a4]=[zy (xk (zy a0 0) 67108863) (xP 5 (yp x4 26)),xk x1 67108863,xk x2 67108863,xk x3 67108863,xk x4 67108863] :=
 ⟨_,_,_,_,rfl,rfl,rfl,rfl,rfl⟩
theorem vA {l:List UInt64} (h:Zq l):∃ c,xA (carried l)+c*PP=xA l∧c < 68719476736∧(∀ i,0 < i→i < 5→(at64 (carried l) i).toNat < 67108864)∧(at64 (carried l) 0).toNat < 67108864+5*c∧Zq (carried l):=by
 obtain ⟨a0,a1,a2,a3,a4,rfl⟩:=zck h.1
 have h0:a0.toNat < 1152921504606846976:=h.2 0 (by omega)
 have h1:a1.toNat < 1152921504606846976:=h.2 1 (by omega)
 have h2:a2.toNat < 1152921504606846976:=h.2 2 (by omega)
 have h3:a3.toNat < 1152921504606846976:=h.2 3 (by omega)
 have h4:a4.toNat < 1152921504606846976:=h.2 4 (by omega)
 obtain ⟨x1,x2,x3,x4,e1,e2,e3,e4,hc⟩:=JJ a0 a1 a2 a3 a4
 have f0:(zy a0 0).toNat=a0.toNat:=by rw [xg _ _ (by simp;omega)];rfl
 have f1:x1.toNat=a1.toNat+a0.toNat / 67108864:=by
  rw [e1,xg,yx,f0]
  rw [yx,f0];omega
 have f2:x2.toNat=a2.toNat+x1.toNat / 67108864:=by
  rw [e2,xg,yx]
  rw [yx];omega
 have f3:x3.toNat=a3.toNat+x2.toNat / 67108864:=by
  rw [e3,xg,yx]
  rw [yx];omega
 have f4:x4.toNat=a4.toNat+x3.toNat / 67108864:=by
  rw [e4,xg,yx]
  rw [yx];omega
 have s4:(yp x4 26).toNat=x4.toNat / 67108864:=yx _ _
 have m5:(xP 5 (yp x4 26)).toNat=5*(x4.toNat / 67108864):=by
  rw [Yy,s4];rfl
  rw [s4];show 5*_ < _;omega
 have g0:(zy (xk (zy a0 0) 67108863) (xP 5 (yp x4 26))).toNat=a0.toNat % 67108864+5*(x4.toNat / 67108864):=by
  rw [xg,yH,f0,m5]
  rw [yH,f0,m5];omega
 rw [hc]
 refine ⟨x4.toNat / 67108864,?_,by omega,?_,?_,rfl,?_⟩
 ·simp only [xA,at64,List.getD_cons_zero,List.getD_cons_succ,g0,yH,PP]
  omega
 ·intro i hi0 hi
  match i,hi0,hi with
  | 1,_,_=>simp only [at64,List.getD_cons_zero,List.getD_cons_succ,yH];omega
  | 2,_,_=>simp only [at64,List.getD_cons_zero,List.getD_cons_succ,yH];omega
  | 3,_,_=>simp only [at64,List.getD_cons_zero,List.getD_cons_succ,yH];omega
  | 4,_,_=>simp only [at64,List.getD_cons_zero,List.getD_cons_succ,yH];omega
 ·simp only [at64,List.getD_cons_zero,g0];omega
 ·intro i hi
  match i,hi with
  | 0,_=>simp only [at64,List.getD_cons_zero,g0];omega
  | 1,_=>simp only [at64,List.getD_cons_zero,List.getD_cons_succ,yH];omega
  | 2,_=>simp only [at64,List.getD_cons_zero,List.getD_cons_succ,yH];omega
  | 3,_=>simp only [at64,List.getD_cons_zero,List.getD_cons_succ,yH];omega
  | 4,_=>simp only [at64,List.getD_cons_zero,List.getD_cons_succ,yH];omega
theorem VH {l:List UInt64} (h:vV l):carried l=l:=by
 obtain ⟨a0,a1,a2,a3,a4,rfl⟩:=zck h.1
 have h0:a0.toNat < 67108864:=h.2 0 (by omega)
 have h1:a1.toNat < 67108864:=h.2 1 (by omega)
 have h2:a2.toNat < 67108864:=h.2 2 (by omega)
 have h3:a3.toNat < 67108864:=h.2 3 (by omega)
 have h4:a4.toNat < 67108864:=h.2 4 (by omega)
 have add0:∀ x:UInt64,zy x 0=x:=fun x=>UInt64.add_zero x
 have shr0:∀ x:UInt64,x.toNat < 67108864→yp x 26=0:=fun x hx=>UInt64.toNat_inj.1 (by rw [yx];show _=0;omega)
 have and0:∀ x:UInt64,x.toNat < 67108864→xk x 67108863=x:=fun x hx=>UInt64.toNat_inj.1 (by rw [yH];omega)
 obtain ⟨x1,x2,x3,x4,e1,e2,e3,e4,hc⟩:=JJ a0 a1 a2 a3 a4
 have f1:x1=a1:=by rw [e1,add0,shr0 _ h0,add0]
 have f2:x2=a2:=by rw [e2,f1,shr0 _ h1,add0]
 have f3:x3=a3:=by rw [e3,f2,shr0 _ h2,add0]
 have f4:x4=a4:=by rw [e4,f3,shr0 _ h3,add0]
 rw [hc,f1,f2,f3,f4,shr0 _ h4,add0,and0 _ h0,and0 _ h1,and0 _ h2,and0 _ h3,and0 _ h4]
 rw [show xP 5 0=0 from rfl,add0]
instance (l:List UInt64):Decidable (∀ i,i < 5→(at64 l i).toNat < 67108864):=inferInstance
def meas (l:List UInt64):Nat:=2*xA l+if (∀ i,i < 5→(at64 l i).toNat < 67108864) then 0 else 1
theorem zhe {l:List UInt64} (h:Zq l) (hne:carried l≠l):meas (carried l) < meas l:=by
 obtain ⟨c,h1,h2,h3,h4,h5⟩:=vA h
 unfold meas
 by_cases hc:c=0
 ·subst hc
  have hv:xA (carried l)=xA l:=by simpa using h1
  have ht:∀ i,i < 5→(at64 (carried l) i).toNat < 67108864:=by
   intro i hi
   by_cases e:i=0
   ·subst e;simpa using h4
   ·exact h3 i (by omega) hi
  have hn:¬ ∀ i,i < 5→(at64 l i).toNat < 67108864:=fun hall=>hne (VH ⟨h.1,hall⟩)
  rw [if_pos ht,if_neg hn,hv]
  omega
 ·have hp:PP≤c*PP:=Nat.le_mul_of_pos_left _ (by omega)
  have hpp:1≤PP:=by decide
  split <;> split <;> omega
theorem QS {l:List UInt64} (h:Zq l) (he:carried l=l):vV l:=by
 obtain ⟨c,h1,h2,h3,h4,h5⟩:=vA h
 rw [he] at h1 h3 h4
 have hc:c=0:=by
  rcases Nat.eq_zero_or_pos c with h | h
  ·exact h
  ·have hp:PP≤c*PP:=Nat.le_mul_of_pos_left _ h
   have hpp:1≤PP:=by decide
   omega
 subst hc
 refine ⟨h.1,fun i hi=>?_⟩
 by_cases e:i=0
 ·subst e;simpa using h4
 ·exact h3 i (by omega) hi
theorem zcl {l:List UInt64} (h:Zq l):xA (carried l) % PP=xA l % PP:=by
 obtain ⟨c,h1,_⟩:=vA h
 rw [← h1,Nat.add_mul_mod_self_right]
def numOf (n:Nat):List UInt32:=[UInt32.ofNat (n % 67108864),UInt32.ofNat (n / 67108864 % 67108864),UInt32.ofNat (n / 4503599627370496 % 67108864),UInt32.ofNat (n / 302231454903657293676544 % 67108864),UInt32.ofNat (n / 20282409603651670423947251286016 % 67108864)]
def Qi (l:List UInt64):List UInt32:=[yX (at64 l 0),yX (at64 l 1),yX (at64 l 2),yX (at64 l 3),yX (at64 l 4)]
def cutP (l:List UInt64):List UInt64:=if (at64 l 1=67108863∧at64 l 2=67108863∧at64 l 3=67108863∧at64 l 4=67108863)∧67108858 < (at64 l 0).toNat then [wk (at64 l 0) 67108859,0,0,0,0] else l
theorem Ko {l:List UInt64} (h:vV l):Qi l=numOf (xA l):=by
 obtain ⟨a0,a1,a2,a3,a4,rfl⟩:=zck h.1
 have h0:a0.toNat < 67108864:=h.2 0 (by omega)
 have h1:a1.toNat < 67108864:=h.2 1 (by omega)
 have h2:a2.toNat < 67108864:=h.2 2 (by omega)
 have h3:a3.toNat < 67108864:=h.2 3 (by omega)
 have h4:a4.toNat < 67108864:=h.2 4 (by omega)
 simp only [Qi,numOf,xA,yX,at64,List.getD_cons_zero,List.getD_cons_succ]
 congr 1
 ·congr 1;omega
 congr 1
 ·congr 1;omega
 congr 1
 ·congr 1;omega
 congr 1
 ·congr 1;omega
 congr 1
 ·congr 1;omega
theorem QT {l:List UInt64} (h:vV l):Qi (cutP l)=numOf (xA l % PP):=by
 obtain ⟨a0,a1,a2,a3,a4,rfl⟩:=zck h.1
 have h0:a0.toNat < 67108864:=h.2 0 (by omega)
 have h1:a1.toNat < 67108864:=h.2 1 (by omega)
 have h2:a2.toNat < 67108864:=h.2 2 (by omega)
 have h3:a3.toNat < 67108864:=h.2 3 (by omega)
 have h4:a4.toNat < 67108864:=h.2 4 (by omega)
 unfold cutP
 by_cases hc:(at64 [a0,a1,a2,a3,a4] 1=67108863∧at64 [a0,a1,a2,a3,a4] 2=67108863∧at64 [a0,a1,a2,a3,a4] 3=67108863∧at64 [a0,a1,a2,a3,a4] 4=67108863)∧67108858 < (at64 [a0,a1,a2,a3,a4] 0).toNat
 ·rw [if_pos hc]
  simp only [at64,List.getD_cons_zero,List.getD_cons_succ] at hc ⊢
  obtain ⟨⟨rfl,rfl,rfl,rfl⟩,h5⟩:=hc
  have hs:(wk a0 67108859).toNat=a0.toNat - 67108859:=by
   unfold wk
   exact UInt64.toNat_sub_of_le _ _ (by rw [UInt64.le_iff_toNat_le];show 67108859≤a0.toNat;omega)
  have hm:(67108863:UInt64).toNat=67108863:=rfl
  have hv:xA [a0,67108863,67108863,67108863,67108863] % PP=a0.toNat - 67108859:=by
   simp only [xA,at64,List.getD_cons_zero,List.getD_cons_succ,hm,PP]
   omega
  have ht:vV [wk a0 67108859,0,0,0,0]:=by
   refine ⟨rfl,fun i hi=>?_⟩
   match i,hi with
   | 0,_=>simp only [at64,List.getD_cons_zero,hs];omega
   | 1,_=>exact (by decide:(0:UInt64).toNat < 67108864)
   | 2,_=>exact (by decide:(0:UInt64).toNat < 67108864)
   | 3,_=>exact (by decide:(0:UInt64).toNat < 67108864)
   | 4,_=>exact (by decide:(0:UInt64).toNat < 67108864)
  have hv2:xA [wk a0 67108859,0,0,0,0]=a0.toNat - 67108859:=by
   have hz:(0:UInt64).toNat=0:=rfl
   simp only [xA,at64,List.getD_cons_zero,List.getD_cons_succ,hs,hz]
   omega
  rw [Ko ht,hv,hv2]
 ·rw [if_neg hc,Ko h]
  congr 1
  symm
  apply Nat.mod_eq_of_lt
  simp only [at64,List.getD_cons_zero,List.getD_cons_succ] at hc
  by_cases e:a1.toNat=67108863∧a2.toNat=67108863∧a3.toNat=67108863∧a4.toNat=67108863
  ·have h5:¬ 67108858 < a0.toNat:=fun h6=>hc ⟨⟨UInt64.toNat_inj.1 e.1,UInt64.toNat_inj.1 e.2.1,UInt64.toNat_inj.1 e.2.2.1,UInt64.toNat_inj.1 e.2.2.2⟩,h6⟩
   simp only [xA,at64,List.getD_cons_zero,List.getD_cons_succ,PP]
   omega
  ·simp only [xA,at64,List.getD_cons_zero,List.getD_cons_succ,PP]
   omega
end Go.Prime
namespace Go.Prime
open Go.Ops Go.Oct Go.Blake Go.Trn
def xq (l:List UInt32):List UInt64:=[yI (yR l 0),yI (yR l 1),yI (yR l 2),yI (yR l 3),yI (yR l 4)]
theorem kJ (x:UInt32):(yI x).toNat=x.toNat:=by
 unfold yI
 exact UInt64.toNat_ofNat_of_lt' (Nat.lt_trans x.toNat_lt (by decide))
theorem qI (n:Nat):vV (xq (numOf n)):=by
 refine ⟨rfl,fun i hi=>?_⟩
 match i,hi with
 | 0,_=>show (yI _).toNat < _;rw [kJ,yR,numOf,List.getD_cons_zero,UInt32.toNat_ofNat_of_lt' (by show _ < 4294967296;omega)];omega
 | 1,_=>show (yI _).toNat < _;rw [kJ,yR,numOf,List.getD_cons_succ,List.getD_cons_zero,UInt32.toNat_ofNat_of_lt' (by show _ < 4294967296;omega)];omega
 | 2,_=>show (yI _).toNat < _;rw [kJ,yR,numOf,List.getD_cons_succ,List.getD_cons_succ,List.getD_cons_zero,UInt32.toNat_ofNat_of_lt' (by show _ < 4294967296;omega)];omega
 | 3,_=>show (yI _).toNat < _;rw [kJ,yR,numOf,List.getD_cons_succ,List.getD_cons_succ,List.getD_cons_succ,List.getD_cons_zero,UInt32.toNat_ofNat_of_lt' (by show _ < 4294967296;omega)];omega
 | 4,_=>show (yI _).toNat < _;rw [kJ,yR,numOf,List.getD_cons_succ,List.getD_cons_succ,List.getD_cons_succ,List.getD_cons_succ,List.getD_cons_zero,UInt32.toNat_ofNat_of_lt' (by show _ < 4294967296;omega)];omega
theorem kS {n:Nat} (h:n < 1361129467683753853853498429727072845824):xA (xq (numOf n))=n:=by
 have e0:∀ m:Nat,(UInt32.ofNat (m % 67108864)).toNat=m % 67108864:=fun m=>UInt32.toNat_ofNat_of_lt' (by show _ < 4294967296;omega)
 simp only [xA,xq,numOf,at64,yR,List.getD_cons_zero,List.getD_cons_succ,kJ,e0]
 omega
def zcm (a b:List UInt64):List UInt64:=[zy (at64 a 0) (at64 b 0),zy (at64 a 1) (at64 b 1),zy (at64 a 2) (at64 b 2),zy (at64 a 3) (at64 b 3),zy (at64 a 4) (at64 b 4)]
theorem zez {a b:List UInt64} (ha:vV a) (hb:vV b):Zq (zcm a b)∧xA (zcm a b)=xA a+xA b:=by
 have e:∀ i,i < 5→(zy (at64 a i) (at64 b i)).toNat=(at64 a i).toNat+(at64 b i).toNat:=fun i hi=>xg _ _ (by have:=ha.2 i hi;have:=hb.2 i hi;omega)
 constructor
 ·refine ⟨rfl,fun i hi=>?_⟩
  have h1:=ha.2 i hi
  have h2:=hb.2 i hi
  have h3:=e i hi
  match i,hi with
  | 0,_=>show (zy _ _).toNat < _;omega
  | 1,_=>show (zy _ _).toNat < _;omega
  | 2,_=>show (zy _ _).toNat < _;omega
  | 3,_=>show (zy _ _).toNat < _;omega
  | 4,_=>show (zy _ _).toNat < _;omega
 ·have e0:=e 0 (by omega);have e1:=e 1 (by omega);have e2:=e 2 (by omega);have e3:=e 3 (by omega);have e4:=e 4 (by omega)
  have hd:∀ x0 x1 x2 x3 x4:UInt64,xA [x0,x1,x2,x3,x4]=x0.toNat+67108864*x1.toNat+4503599627370496*x2.toNat+302231454903657293676544*x3.toNat+20282409603651670423947251286016*x4.toNat:=fun _ _ _ _ _=>rfl
  unfold zcm
  rw [hd,e0,e1,e2,e3,e4]
  unfold xA
  omega
def zS (a b:List UInt64) (i j:Nat):UInt64:=if 5≤i+j then xP (xP (at64 a i) (at64 b j)) 5 else xP (at64 a i) (at64 b j)
def zf3 (a b w:List UInt64) (i j:Nat):List UInt64:=w.set ((i+j) % 5) (zy (at64 w ((i+j) % 5)) (zS a b i j))
def rowL (a b w:List UInt64) (i:Nat):Nat→List UInt64
 | 0=>w
 | j+1=>zf3 a b (rowL a b w i j) i j
def timesL (a b w:List UInt64):Nat→List UInt64
 | 0=>w
 | i+1=>rowL a b (timesL a b w i) i 5
theorem zad (a b w:List UInt64) (i j:Nat):(zf3 a b w i j).length=w.length:=by simp [zf3]
theorem Yz (a b w:List UInt64) (i:Nat):∀ j,(rowL a b w i j).length=w.length
 | 0=>rfl
 | j+1=>by rw [rowL,zad,Yz a b w i j]
theorem wZ (a b w:List UInt64):∀ i,(timesL a b w i).length=w.length
 | 0=>rfl
 | i+1=>by rw [timesL,Yz,wZ a b w i]
theorem zhf {a b:List UInt64} (ha:vV a) (hb:vV b) {i j:Nat} (hi:i < 5) (hj:j < 5):(zS a b i j).toNat=(if 5≤i+j then 5 else 1)*((at64 a i).toNat*(at64 b j).toNat)∧(at64 a i).toNat*(at64 b j).toNat≤4503599627370496:=by
 have h1:=ha.2 i hi
 have h2:=hb.2 j hj
 have hm:(at64 a i).toNat*(at64 b j).toNat≤67108864*67108864:=Nat.mul_le_mul (by omega) (by omega)
 have hp:(xP (at64 a i) (at64 b j)).toNat=(at64 a i).toNat*(at64 b j).toNat:=Yy _ _ (by omega)
 refine ⟨?_,by omega⟩
 unfold zS
 split
 ·rw [Yy _ _ (by rw [hp];show _*5 < _;omega),hp]
  show _*5=_
  omega
 ·rw [hp];omega
attribute [local irreducible] zS zy in
theorem rowL_0 (a b:List UInt64) (w0 w1 w2 w3 w4:UInt64):rowL a b [w0,w1,w2,w3,w4] 0 5=[zy w0 (zS a b 0 0),zy w1 (zS a b 0 1),zy w2 (zS a b 0 2),zy w3 (zS a b 0 3),zy w4 (zS a b 0 4)]:=rfl
attribute [local irreducible] zS zy in
theorem rowL_1 (a b:List UInt64) (w0 w1 w2 w3 w4:UInt64):rowL a b [w0,w1,w2,w3,w4] 1 5=[zy w0 (zS a b 1 4),zy w1 (zS a b 1 0),zy w2 (zS a b 1 1),zy w3 (zS a b 1 2),zy w4 (zS a b 1 3)]:=rfl
attribute [local irreducible] zS zy in
theorem rowL_2 (a b:List UInt64) (w0 w1 w2 w3 w4:UInt64):rowL a b [w0,w1,w2,w3,w4] 2 5=[zy w0 (zS a b 2 3),zy w1 (zS a b 2 4),zy w2 (zS a b 2 0),zy w3 (zS a b 2 1),zy w4 (zS a b 2 2)]:=rfl
attribute [local irreducible] zS zy in
theorem rowL_3 (a b:List UInt64) (w0 w1 w2 w3 w4:UInt64):rowL a b [w0,w1,w2,w3,w4] 3 5=[zy w0 (zS a b 3 2),zy w1 (zS a b 3 3),zy w2 (zS a b 3 4),zy w3 (zS a b 3 0),zy w4 (zS a b 3 1)]:=rfl
attribute [local irreducible] zS zy in
theorem rowL_4 (a b:List UInt64) (w0 w1 w2 w3 w4:UInt64):rowL a b [w0,w1,w2,w3,w4] 4 5=[zy w0 (zS a b 4 1),zy w1 (zS a b 4 2),zy w2 (zS a b 4 3),zy w3 (zS a b 4 4),zy w4 (zS a b 4 0)]:=rfl
theorem zhg (a b:List UInt64):timesL a b [0,0,0,0,0] 5=[zy (zy (zy (zy (zy 0 (zS a b 0 0)) (zS a b 1 4)) (zS a b 2 3)) (zS a b 3 2)) (zS a b 4 1),zy (zy (zy (zy (zy 0 (zS a b 0 1)) (zS a b 1 0)) (zS a b 2 4)) (zS a b 3 3)) (zS a b 4 2),zy (zy (zy (zy (zy 0 (zS a b 0 2)) (zS a b 1 1)) (zS a b 2 0)) (zS a b 3 4)) (zS a b 4 3),zy (zy (zy (zy (zy 0 (zS a b 0 3)) (zS a b 1 2)) (zS a b 2 1)) (zS a b 3 0)) (zS a b 4 4),zy (zy (zy (zy (zy 0 (zS a b 0 4)) (zS a b 1 3)) (zS a b 2 2)) (zS a b 3 1)) (zS a b 4 0)]:=by
 rw [timesL,timesL,timesL,timesL,timesL,timesL,rowL_0,rowL_1,rowL_2,rowL_3,rowL_4]
theorem sum5 {x0 x1 x2 x3 x4:UInt64} (h0:x0.toNat≤22517998136852480) (h1:x1.toNat≤22517998136852480) (h2:x2.toNat≤22517998136852480) (h3:x3.toNat≤22517998136852480) (h4:x4.toNat≤22517998136852480) :
  (zy (zy (zy (zy (zy 0 x0) x1) x2) x3) x4).toNat=x0.toNat+x1.toNat+x2.toNat+x3.toNat+x4.toNat:=by
 have z:(0:UInt64).toNat=0:=rfl
 have e0:(zy 0 x0).toNat=x0.toNat:=by rw [xg _ _ (by omega),z];omega
 have e1:(zy (zy 0 x0) x1).toNat=x0.toNat+x1.toNat:=by rw [xg _ _ (by omega),e0]
 have e2:(zy (zy (zy 0 x0) x1) x2).toNat=x0.toNat+x1.toNat+x2.toNat:=by rw [xg _ _ (by omega),e1]
 have e3:(zy (zy (zy (zy 0 x0) x1) x2) x3).toNat=x0.toNat+x1.toNat+x2.toNat+x3.toNat:=by rw [xg _ _ (by omega),e2]
 rw [xg _ _ (by omega),e3]
theorem zcn {a b:List UInt64} (ha:vV a) (hb:vV b):Zq (timesL a b [0,0,0,0,0] 5)∧xA (timesL a b [0,0,0,0,0] 5) % PP=xA a*xA b % PP:=by
 have T:=fun i j (hi:i < 5) (hj:j < 5)=>zhf ha hb hi hj
 have bound:∀ i j,i < 5→j < 5→(zS a b i j).toNat≤22517998136852480:=by
  intro i j hi hj
  obtain ⟨h1,h2⟩:=T i j hi hj
  rw [h1]
  split <;> omega
 have s0:=sum5 (bound 0 0 (by omega) (by omega)) (bound 1 4 (by omega) (by omega)) (bound 2 3 (by omega) (by omega)) (bound 3 2 (by omega) (by omega)) (bound 4 1 (by omega) (by omega))
 have s1:=sum5 (bound 0 1 (by omega) (by omega)) (bound 1 0 (by omega) (by omega)) (bound 2 4 (by omega) (by omega)) (bound 3 3 (by omega) (by omega)) (bound 4 2 (by omega) (by omega))
 have s2:=sum5 (bound 0 2 (by omega) (by omega)) (bound 1 1 (by omega) (by omega)) (bound 2 0 (by omega) (by omega)) (bound 3 4 (by omega) (by omega)) (bound 4 3 (by omega) (by omega))
 have s3:=sum5 (bound 0 3 (by omega) (by omega)) (bound 1 2 (by omega) (by omega)) (bound 2 1 (by omega) (by omega)) (bound 3 0 (by omega) (by omega)) (bound 4 4 (by omega) (by omega))
 have s4:=sum5 (bound 0 4 (by omega) (by omega)) (bound 1 3 (by omega) (by omega)) (bound 2 2 (by omega) (by omega)) (bound 3 1 (by omega) (by omega)) (bound 4 0 (by omega) (by omega))
 have t00:(zS a b 0 0).toNat=((at64 a 0).toNat*(at64 b 0).toNat):=by rw [(T 0 0 (by omega) (by omega)).1];simp
 have t01:(zS a b 0 1).toNat=((at64 a 0).toNat*(at64 b 1).toNat):=by rw [(T 0 1 (by omega) (by omega)).1];simp
 have t02:(zS a b 0 2).toNat=((at64 a 0).toNat*(at64 b 2).toNat):=by rw [(T 0 2 (by omega) (by omega)).1];simp
 have t03:(zS a b 0 3).toNat=((at64 a 0).toNat*(at64 b 3).toNat):=by rw [(T 0 3 (by omega) (by omega)).1];simp
 have t04:(zS a b 0 4).toNat=((at64 a 0).toNat*(at64 b 4).toNat):=by rw [(T 0 4 (by omega) (by omega)).1];simp
 have t10:(zS a b 1 0).toNat=((at64 a 1).toNat*(at64 b 0).toNat):=by rw [(T 1 0 (by omega) (by omega)).1];simp
 have t11:(zS a b 1 1).toNat=((at64 a 1).toNat*(at64 b 1).toNat):=by rw [(T 1 1 (by omega) (by omega)).1];simp
 have t12:(zS a b 1 2).toNat=((at64 a 1).toNat*(at64 b 2).toNat):=by rw [(T 1 2 (by omega) (by omega)).1];simp
 have t13:(zS a b 1 3).toNat=((at64 a 1).toNat*(at64 b 3).toNat):=by rw [(T 1 3 (by omega) (by omega)).1];simp
 have t14:(zS a b 1 4).toNat=5*((at64 a 1).toNat*(at64 b 4).toNat):=by rw [(T 1 4 (by omega) (by omega)).1];simp
 have t20:(zS a b 2 0).toNat=((at64 a 2).toNat*(at64 b 0).toNat):=by rw [(T 2 0 (by omega) (by omega)).1];simp
 have t21:(zS a b 2 1).toNat=((at64 a 2).toNat*(at64 b 1).toNat):=by rw [(T 2 1 (by omega) (by omega)).1];simp
 have t22:(zS a b 2 2).toNat=((at64 a 2).toNat*(at64 b 2).toNat):=by rw [(T 2 2 (by omega) (by omega)).1];simp
 have t23:(zS a b 2 3).toNat=5*((at64 a 2).toNat*(at64 b 3).toNat):=by rw [(T 2 3 (by omega) (by omega)).1];simp
 have t24:(zS a b 2 4).toNat=5*((at64 a 2).toNat*(at64 b 4).toNat):=by rw [(T 2 4 (by omega) (by omega)).1];simp
 have t30:(zS a b 3 0).toNat=((at64 a 3).toNat*(at64 b 0).toNat):=by rw [(T 3 0 (by omega) (by omega)).1];simp
 have t31:(zS a b 3 1).toNat=((at64 a 3).toNat*(at64 b 1).toNat):=by rw [(T 3 1 (by omega) (by omega)).1];simp
 have t32:(zS a b 3 2).toNat=5*((at64 a 3).toNat*(at64 b 2).toNat):=by rw [(T 3 2 (by omega) (by omega)).1];simp
 have t33:(zS a b 3 3).toNat=5*((at64 a 3).toNat*(at64 b 3).toNat):=by rw [(T 3 3 (by omega) (by omega)).1];simp
 have t34:(zS a b 3 4).toNat=5*((at64 a 3).toNat*(at64 b 4).toNat):=by rw [(T 3 4 (by omega) (by omega)).1];simp
 have t40:(zS a b 4 0).toNat=((at64 a 4).toNat*(at64 b 0).toNat):=by rw [(T 4 0 (by omega) (by omega)).1];simp
 have t41:(zS a b 4 1).toNat=5*((at64 a 4).toNat*(at64 b 1).toNat):=by rw [(T 4 1 (by omega) (by omega)).1];simp
 have t42:(zS a b 4 2).toNat=5*((at64 a 4).toNat*(at64 b 2).toNat):=by rw [(T 4 2 (by omega) (by omega)).1];simp
 have t43:(zS a b 4 3).toNat=5*((at64 a 4).toNat*(at64 b 3).toNat):=by rw [(T 4 3 (by omega) (by omega)).1];simp
 have t44:(zS a b 4 4).toNat=5*((at64 a 4).toNat*(at64 b 4).toNat):=by rw [(T 4 4 (by omega) (by omega)).1];simp
 have hd:∀ x0 x1 x2 x3 x4:UInt64,xA [x0,x1,x2,x3,x4]=x0.toNat+67108864*x1.toNat+4503599627370496*x2.toNat+302231454903657293676544*x3.toNat+20282409603651670423947251286016*x4.toNat:=fun _ _ _ _ _=>rfl
 rw [zhg]
 refine ⟨⟨rfl,fun i hi=>?_⟩,?_⟩
 ·match i,hi with
  | 0,_=>show (zy _ _).toNat < _;rw [s0];have:=bound 0 0 (by omega) (by omega);have:=bound 1 4 (by omega) (by omega);have:=bound 2 3 (by omega) (by omega);have:=bound 3 2 (by omega) (by omega);have:=bound 4 1 (by omega) (by omega);omega
  | 1,_=>show (zy _ _).toNat < _;rw [s1];have:=bound 0 1 (by omega) (by omega);have:=bound 1 0 (by omega) (by omega);have:=bound 2 4 (by omega) (by omega);have:=bound 3 3 (by omega) (by omega);have:=bound 4 2 (by omega) (by omega);omega
  | 2,_=>show (zy _ _).toNat < _;rw [s2];have:=bound 0 2 (by omega) (by omega);have:=bound 1 1 (by omega) (by omega);have:=bound 2 0 (by omega) (by omega);have:=bound 3 4 (by omega) (by omega);have:=bound 4 3 (by omega) (by omega);omega
  | 3,_=>show (zy _ _).toNat < _;rw [s3];have:=bound 0 3 (by omega) (by omega);have:=bound 1 2 (by omega) (by omega);have:=bound 2 1 (by omega) (by omega);have:=bound 3 0 (by omega) (by omega);have:=bound 4 4 (by omega) (by omega);omega
  | 4,_=>show (zy _ _).toNat < _;rw [s4];have:=bound 0 4 (by omega) (by omega);have:=bound 1 3 (by omega) (by omega);have:=bound 2 2 (by omega) (by omega);have:=bound 3 1 (by omega) (by omega);have:=bound 4 0 (by omega) (by omega);omega
 ·rw [hd,s0,s1,s2,s3,s4]
  unfold xA
  rw [t00,t01,t02,t03,t04,t10,t11,t12,t13,t14,t20,t21,t22,t23,t24,t30,t31,t32,t33,t34,t40,t41,t42,t43,t44]
  generalize (at64 a 0).toNat=a0
  generalize (at64 b 0).toNat=b0
  generalize (at64 a 1).toNat=a1
  generalize (at64 b 1).toNat=b1
  generalize (at64 a 2).toNat=a2
  generalize (at64 b 2).toNat=b2
  generalize (at64 a 3).toNat=a3
  generalize (at64 b 3).toNat=b3
  generalize (at64 a 4).toNat=a4
  generalize (at64 b 4).toNat=b4
  have key:(a0+67108864*a1+4503599627370496*a2+302231454903657293676544*a3+20282409603651670423947251286016*a4)*(b0+67108864*b1+4503599627370496*b2+302231454903657293676544*b3+20282409603651670423947251286016*b4)=((a0*b0+5*(a1*b4)+5*(a2*b3)+5*(a3*b2)+5*(a4*b1))+67108864*(a0*b1+a1*b0+5*(a2*b4)+5*(a3*b3)+5*(a4*b2))+4503599627370496*(a0*b2+a1*b1+a2*b0+5*(a3*b4)+5*(a4*b3))+302231454903657293676544*(a0*b3+a1*b2+a2*b1+a3*b0+5*(a4*b4))+20282409603651670423947251286016*(a0*b4+a1*b3+a2*b2+a3*b1+a4*b0))+((a1*b4+a2*b3+a3*b2+a4*b1)+67108864*(a2*b4+a3*b3+a4*b2)+4503599627370496*(a3*b4+a4*b3)+302231454903657293676544*(a4*b4))*PP:=by
   unfold PP
   grind
  rw [key,Nat.add_mul_mod_self_right]
theorem qU (a:UInt64) (n:Nat):(xf a n).toNat=a.toNat*2 ^ n % 18446744073709551616:=by
 unfold xf
 exact UInt64.toNat_ofNat'
theorem jx (a b:UInt64) (k:Nat) (ha:a.toNat < 2 ^ k) (hb:b.toNat % 2 ^ k=0):(wi a b).toNat=a.toNat+b.toNat:=by
 unfold wi
 rw [UInt64.toNat_or]
 obtain ⟨q,hq⟩:∃ q,b.toNat=2 ^ k*q:=⟨b.toNat / 2 ^ k,by have:=Nat.div_add_mod b.toNat (2 ^ k);omega⟩
 rw [hq,Nat.or_comm,← Nat.two_pow_add_eq_or_of_lt ha,Nat.add_comm]
def ofL (lo hi:UInt64) (high:UInt32):List UInt64:=[xk lo 67108863,xk (yp lo 26) 67108863,xk (wi (yp lo 52) (xf hi 12)) 67108863,xk (yp hi 14) 67108863,wi (yp hi 40) (xf (yI high) 24)]
theorem zj9 (lo hi:UInt64) (high:UInt32) (hh:high.toNat≤1):Zq (ofL lo hi high)∧xA (ofL lo hi high)=lo.toNat+18446744073709551616*hi.toNat+340282366920938463463374607431768211456*high.toNat:=by
 have hl:=lo.toNat_lt
 have hi':=hi.toNat_lt
 have p2:(wi (yp lo 52) (xf hi 12)).toNat=lo.toNat / 4503599627370496+hi.toNat*4096 % 18446744073709551616:=by
  rw [jx _ _ 12 (by rw [yx];show _ / 4503599627370496 < 4096;omega) (by rw [qU];show _*4096 % 18446744073709551616 % 4096=0;omega),yx,qU]
 have p4:(wi (yp hi 40) (xf (yI high) 24)).toNat=hi.toNat / 1099511627776+high.toNat*16777216:=by
  have e:(xf (yI high) 24).toNat=high.toNat*16777216:=by
   rw [qU,kJ]
   show _*16777216 % _=_
   omega
  rw [jx _ _ 24 (by rw [yx];show _ / 1099511627776 < 16777216;omega) (by rw [e];show _*16777216 % 16777216=0;omega),yx,e]
 have q0:(xk lo 67108863).toNat=lo.toNat % 67108864:=yH _
 have q1:(xk (yp lo 26) 67108863).toNat=lo.toNat / 67108864 % 67108864:=by rw [yH,yx]
 have q2:(xk (wi (yp lo 52) (xf hi 12)) 67108863).toNat=(lo.toNat / 4503599627370496+hi.toNat*4096 % 18446744073709551616) % 67108864:=by rw [yH,p2]
 have q3:(xk (yp hi 14) 67108863).toNat=hi.toNat / 16384 % 67108864:=by rw [yH,yx]
 refine ⟨⟨rfl,fun i hi2=>?_⟩,?_⟩
 ·match i,hi2 with
  | 0,_=>show (xk _ _).toNat < _;omega
  | 1,_=>show (xk _ _).toNat < _;omega
  | 2,_=>show (xk _ _).toNat < _;omega
  | 3,_=>show (xk _ _).toNat < _;omega
  | 4,_=>show (wi _ _).toNat < _;omega
 ·have hd:∀ x0 x1 x2 x3 x4:UInt64,xA [x0,x1,x2,x3,x4]=x0.toNat+67108864*x1.toNat+4503599627370496*x2.toNat+302231454903657293676544*x3.toNat+20282409603651670423947251286016*x4.toNat:=fun _ _ _ _ _=>rfl
  unfold ofL
  rw [hd,q0,q1,q2,q3,p4]
  omega
def zf4 (w:List UInt64):UInt64:=wi (wi (at64 w 0) (xf (at64 w 1) 26)) (xf (at64 w 2) 52)
def zf5 (w:List UInt64):UInt64:=wi (wi (yp (at64 w 2) 12) (xf (at64 w 3) 14)) (xf (at64 w 4) 40)
theorem zka {w:List UInt64} (h:vV w):zf4 w=UInt64.ofNat (xA w)∧zf5 w=UInt64.ofNat (xA w / 18446744073709551616):=by
 have h0:=h.2 0 (by omega)
 have h1:=h.2 1 (by omega)
 have h2:=h.2 2 (by omega)
 have h3:=h.2 3 (by omega)
 have h4:=h.2 4 (by omega)
 have s1:(xf (at64 w 1) 26).toNat=(at64 w 1).toNat*67108864:=by rw [qU];show _*67108864 % _=_;omega
 have s2:(xf (at64 w 2) 52).toNat=(at64 w 2).toNat*4503599627370496 % 18446744073709551616:=by rw [qU]
 have s3:(xf (at64 w 3) 14).toNat=(at64 w 3).toNat*16384:=by rw [qU];show _*16384 % _=_;omega
 have s4:(xf (at64 w 4) 40).toNat=(at64 w 4).toNat*1099511627776 % 18446744073709551616:=by rw [qU]
 have s5:(yp (at64 w 2) 12).toNat=(at64 w 2).toNat / 4096:=yx _ _
 have o1:(wi (at64 w 0) (xf (at64 w 1) 26)).toNat=(at64 w 0).toNat+(at64 w 1).toNat*67108864:=by
  rw [jx _ _ 26 (by show _ < 67108864;exact h0) (by rw [s1];show _*67108864 % 67108864=0;omega),s1]
 have o2:(wi (yp (at64 w 2) 12) (xf (at64 w 3) 14)).toNat=(at64 w 2).toNat / 4096+(at64 w 3).toNat*16384:=by
  rw [jx _ _ 14 (by rw [s5];show _ < 16384;omega) (by rw [s3];show _*16384 % 16384=0;omega),s3,s5]
 constructor
 ·apply UInt64.toNat_inj.1
  unfold zf4
  rw [jx _ _ 52 (by rw [o1];show _ < 4503599627370496;omega) (by rw [s2];show _ % 18446744073709551616 % 4503599627370496=0;omega),o1,s2,UInt64.toNat_ofNat']
  unfold xA
  show _=_ % 18446744073709551616
  omega
 ·apply UInt64.toNat_inj.1
  unfold zf5
  rw [jx _ _ 40 (by rw [o2];show _ < 1099511627776;omega) (by rw [s4];show _ % 18446744073709551616 % 1099511627776=0;omega),o2,s4,UInt64.toNat_ofNat']
  unfold xA
  show _=_ % 18446744073709551616
  omega
def leN (b:List UInt8):Nat:=(longL b 0).toNat+18446744073709551616*(longL b 8).toNat
def Z7 (n:Nat):List UInt8:=zz (UInt64.ofNat n)++zz (UInt64.ofNat (n / 18446744073709551616))
theorem YA (n:Nat):(Z7 n).length=16:=by simp [Z7,zz]
end Go.Prime
namespace Go.Cha
open Go.Ops Go.Oct Go.Trn
def zf2 (x:UInt32) (n:Nat):UInt32:=or32 (Q3 x n) (Y5 x (32 - n))
structure zac where
 a:UInt32
 b:UInt32
 c:UInt32
 d:UInt32
def q1 (f:zac) (n:Nat):zac:=⟨jI f.a f.b,f.b,f.c,zf2 (y5 f.d (jI f.a f.b)) n⟩
def q2 (f:zac) (n:Nat):zac:=⟨f.a,zf2 (y5 f.b (jI f.c f.d)) n,jI f.c f.d,f.d⟩
def quarter (f:zac):zac:=q2 (q1 (q2 (q1 f 16) 12) 8) 7
def Zp (s:List UInt32) (i j k l:Nat):List UInt32 :=
 let f:=quarter ⟨yR s i,yR s j,yR s k,yR s l⟩
 (((s.set i f.a).set j f.b).set k f.c).set l f.d
theorem QR (s:List UInt32) (i j k l:Nat):(Zp s i j k l).length=s.length:=by simp [Zp]
def jd (by':Nat) (s:List UInt32):Nat→List UInt32
 | 0=>s
 | i+1=>Zp (jd by' s i) i (4+(i+by') % 4) (8+(i+2*by') % 4) (12+(i+3*by') % 4)
theorem qT (by':Nat) (s:List UInt32):∀ i,(jd by' s i).length=s.length
 | 0=>rfl
 | i+1=>by rw [jd,QR,qT by' s i]
def xQ (s:List UInt32):Nat→List UInt32
 | 0=>s
 | r+1=>jd 1 (jd 0 (xQ s r) 4) 4
theorem q5 (s:List UInt32):∀ r,(xQ s r).length=s.length
 | 0=>rfl
 | r+1=>by rw [xQ,qT,qT,q5 s r]
def j5:List UInt8:=[101,120,112,97,110,100,32,51,50,45,98,121,116,101,32,107]
def wu (key inn:List UInt8) (r:Nat):UInt32 :=
 if r < 4 then yU j5 (4*r) else if r < 8 then yU key (4*(r - 4)) else if r < 12 then yU key (4*(r - 8)+16) else yU inn (4*(r - 12))
def je (key inn:List UInt8):List UInt32:=(List.range 16).map (wu key inn)
theorem kq (key inn:List UInt8):(je key inn).length=16:=by simp [je]
def addAll (t s:List UInt32):List UInt32:=(List.range 16).map fun i=>jI (yR t i) (yR s i)
theorem wV (t s:List UInt32):(addAll t s).length=16:=by simp [addAll]
def xi (l:List UInt32):List UInt8:=(l.map putWord).flatten
theorem xp:∀ l:List UInt32,(xi l).length=4*l.length
 | []=>rfl
 | x::r=>by
  have:=xp r
  unfold xi at this ⊢
  rw [List.map_cons,List.flatten_cons,List.length_append,this,List.length_cons]
  simp [putWord]
  omega
def wW (key inn:List UInt8) (rounds:Nat):List UInt8:=xi (addAll (xQ (je key inn) (rounds / 2)) (je key inn))
theorem wX (key inn:List UInt8) (rounds:Nat):(wW key inn rounds).length=64:=by rw [wW,xp,wV]
def jw (key inn:List UInt8) (rounds:Nat):List UInt8 :=
 let t:=xQ (je key inn) (rounds / 2)
 xi (t.take 4)++xi (t.drop 12)
theorem wY (key inn:List UInt8) (rounds:Nat):(jw key inn rounds).length=32:=by
 simp [jw,xp,q5,kq]
def kr (key nonce:List UInt8) (rounds:Nat) (many:Nat):List UInt8:=wW (jw key (nonce.take 16) rounds) (zz (UInt64.ofNat many)++nonce.drop 16) rounds
def xa (key nonce:List UInt8) (rounds:Nat) (many:Nat) (b:List UInt8):List UInt8 :=
 if h:b.length=0 then [] else xorL b (kr key nonce rounds many)++xa key nonce rounds (many+1) (b.drop 64)
termination_by b.length
decreasing_by simp;omega
def jT (key nonce:List UInt8) (rounds:Nat) (b:List UInt8):List UInt8:=xa key nonce rounds 0 b
theorem xorL_length (a b:List UInt8):(xorL a b).length=min a.length b.length:=by simp [xorL]
theorem qE (key nonce:List UInt8) (rounds many:Nat):(kr key nonce rounds many).length=64:=wX _ _ _
theorem jf (key nonce:List UInt8) (rounds:Nat):∀ (n many:Nat) (b:List UInt8),b.length≤n→(xa key nonce rounds many b).length=b.length
 | n,many,b,h=>by
  unfold xa
  by_cases h0:b.length=0
  ·rw [dif_pos h0,h0];rfl
  ·rw [dif_neg h0,List.length_append,xorL_length,qE]
   match n,h with
   | 0,h=>omega
   | n+1,h =>
    rw [jf key nonce rounds n (many+1) (b.drop 64) (by rw [List.length_drop];omega),List.length_drop]
    omega
theorem vy (key nonce:List UInt8) (rounds:Nat) (b:List UInt8):(jT key nonce rounds b).length=b.length:=jf _ _ _ _ _ _ (Nat.le_refl _)
theorem YO (a b:UInt8):ya (ya a b) b=a:=by unfold ya;rw [UInt8.xor_assoc,UInt8.xor_self,UInt8.xor_zero]
theorem at8_get {b:List UInt8} {i:Nat} (h:i < b.length):b[i]? = some (at8 b i):=by simp [at8,List.getD,h]
theorem Ym {a s:List UInt8} {i:Nat} (h:i < min a.length s.length):(xorL a s)[i]? = some (ya (at8 a i) (at8 s i)):=by
 unfold xorL
 rw [List.getElem?_map,List.getElem?_range h]
 rfl
theorem jU (key nonce:List UInt8) (rounds many:Nat):xa key nonce rounds many []=[]:=by
 unfold xa
 simp
theorem jr (a s:List UInt8):xorL (xorL a s) s=a.take s.length:=by
 apply List.ext_getElem?
 intro i
 by_cases h:i < min a.length s.length
 ·have h1:(xorL a s)[i]? = some (ya (at8 a i) (at8 s i)):=Ym h
  have h2:at8 (xorL a s) i=ya (at8 a i) (at8 s i):=by rw [at8,List.getD,h1];rfl
  have h3:(xorL (xorL a s) s)[i]? = some (ya (at8 (xorL a s) i) (at8 s i)):=Ym (by rw [xorL_length];omega)
  rw [h3,h2,YO,List.getElem?_take,if_pos (by omega),at8_get (by omega)]
 ·rw [List.getElem?_eq_none (by rw [xorL_length,xorL_length];omega),List.getElem?_eq_none (by rw [List.length_take];omega)]
theorem Xe (key nonce:List UInt8) (rounds:Nat):∀ (n many:Nat) (b:List UInt8),b.length≤n→xa key nonce rounds many (xa key nonce rounds many b)=b
 | n,many,b,h=>by
  by_cases h0:b.length=0
  ·have:b=[]:=List.eq_nil_of_length_eq_zero h0
   subst this
   rw [jU,jU]
  ·have e:xa key nonce rounds many b=xorL b (kr key nonce rounds many)++xa key nonce rounds (many+1) (b.drop 64):=by
    conv=>lhs;unfold xa
    rw [dif_neg h0]
   have hl:=jf key nonce rounds _ many b (Nat.le_refl _)
   have hx:=xorL_length b (kr key nonce rounds many)
   rw [qE] at hx
   unfold xa
   rw [dif_neg (by omega)]
   match n,h with
   | 0,h=>omega
   | n+1,h =>
    have ih:=Xe key nonce rounds n (many+1) (b.drop 64) (by rw [List.length_drop];omega)
    by_cases h64:64≤b.length
    ·have hd:(xa key nonce rounds many b).drop 64=xa key nonce rounds (many+1) (b.drop 64):=by
      rw [e,List.drop_append_of_le_length (by omega),List.drop_eq_nil_of_le (by omega),List.nil_append]
     have hxo:xorL (xa key nonce rounds many b) (kr key nonce rounds many)=xorL (xorL b (kr key nonce rounds many)) (kr key nonce rounds many):=by
      rw [e]
      unfold xorL
      have hs:=qE key nonce rounds many
      have hcl:=jf key nonce rounds _ (many+1) (b.drop 64) (Nat.le_refl _)
      simp only [List.length_append,List.length_map,List.length_range,hs]
      have e1:min (min b.length 64+(xa key nonce rounds (many+1) (b.drop 64)).length) 64=64:=by omega
      have e2:min (min b.length 64) 64=64:=by omega
      rw [e1,e2]
      apply List.map_congr_left
      intro i hi
      have hi:=List.mem_range.1 hi
      congr 1
      simp only [at8,List.getD]
      rw [List.getElem?_append_left (by simp;omega)]
     rw [hd,ih,hxo,jr,qE,List.take_append_drop]
    ·have hz:xa key nonce rounds (many+1) (b.drop 64)=[]:=by
      rw [List.drop_eq_nil_of_le (by omega),jU]
     rw [hz,List.append_nil] at e
     rw [e,jr,qE,List.take_of_length_le (by omega),List.drop_eq_nil_of_le (by rw [hx];omega),jU,List.append_nil]
theorem zcj (key nonce:List UInt8) (rounds:Nat) (b:List UInt8):jT key nonce rounds (jT key nonce rounds b)=b:=Xe _ _ _ _ _ _ (Nat.le_refl _)
end Go.Cha
namespace Go
open Go.RowKit
section
variable {P:Program} {ops:Array Oper} {Q:Exit→Act→World→Prop} {md:Region.Mode} {R:World→World→Prop} {brk:List Nat}
theorem Xi (hrf:∀ a,R a a) {i:Nat} {oi:Oper} {v:Value} (hi:ops[i]? = some oi) (hsel:∀ (j:Nat) (o:Oper) cs b,ops[j]? = some o→o.op≠.select cs b)
  (hQ:∀ c a w,Q (.panic c) (a.put oi.dst v) w→Q (.panic c) a w) (D:Nat→Bool) (hDi:D i=false)
  (hD:∀ d,D d=true→∃ od,ops[d]? = some od∧∃ e∈od.after,Region.binds md e=true∧(e.on=i∨D e.on=true)) :
  ∀ (fuel:Nat) (listed:Array Bool) (a:Act) (w:World),
   (∀ d,D d=true→listed.getD d true=false) →
   (∀ j oj,ops[j]? = some oj→j≠i→listed.getD j true=false→D j=false→oi.apart ops oj=true) →
   i∈Region.ready md ops listed→YieldsIf P ops (fun _=>True) oi v a →
   qj R brk P md ops Q fuel (listed.setIfInBounds i true) (a.put oi.dst v) w→qj R brk P md ops Q (fuel+1) listed a w:=by
 intro fuel
 induction fuel with
 | zero =>
  intro listed a w _ _ hr hy H
  refine ⟨fun h=>(by rw [h] at hr;cases hr),fun j hj=>?_⟩
  by_cases hji:j=i
  ·subst hji;exact hy.wpOp hi trivial ⟨fun _=>hrf w,H⟩
  ·have:=ready_mono hj hji
   rw [H.1] at this
   cases this
 | succ fuel ih =>
  intro listed a w hun hfree hr hy H
  refine ⟨fun h=>(by rw [h] at hr;cases hr),fun j hj=>?_⟩
  by_cases hji:j=i
  ·subst hji;exact hy.wpOp hi trivial ⟨fun _=>hrf w,H⟩
  ·have h1:=H.2 j (ready_mono hj hji)
   obtain ⟨hjun,oj,hoj,hall⟩:=mem_ready.1 hj
   have hget:∀ k,listed.getD k true=false→(listed[k]?).getD true=false:=fun k hk=>by
    rcases Nat.lt_or_ge k listed.size with h' | h'
    ·simpa [Array.getD,h'] using hk
    ·simp [Array.getD,Nat.not_lt.2 h'] at hk
   have hDj:D j=false:=by
    cases hdj:D j with
    | false=>rfl
    | true =>
     obtain ⟨od,hod,e,he,hb,hon⟩:=hD j hdj
     rw [hoj] at hod
     cases hod
     have h1:=hall e he hb
     have h0:listed.getD e.on true=false:=by
      rcases hon with h | h
      ·rw [h];exact (mem_ready.1 hr).1
      ·exact hun _ h
     rcases Nat.lt_or_ge e.on listed.size with h' | h'
     ·simp [h'] at h0 h1;rw [h0] at h1;cases h1
     ·simp [Array.getElem?_eq_none h'] at h1
   have hfj:=hfree j oj hoj hji hjun hDj
   have h2:=wpOp_putIf hoj hfj (fun cs b=>hsel i oi cs b hi) (fun cs b=>hsel j oj cs b hoj) hQ hy h1
   have hun':∀ d,D d=true→(listed.setIfInBounds j true).getD d true=false:=fun d hd=>by
    have hne:j≠d:=by rintro rfl;rw [hDj] at hd;cases hd
    rw [getD_set_ne true hne]
    exact hun d hd
   have hfree':∀ k ok,ops[k]? = some ok→k≠i→(listed.setIfInBounds j true).getD k true=false →
     D k=false→oi.apart ops ok=true:=fun k ok hk hki hun hno=>by
    refine hfree k ok hk hki ?_ hno
    by_cases hjk:j=k
    ·subst hjk;exact hjun
    ·rw [getD_set_ne true hjk] at hun;exact hun
   refine wpOp_mono (fun a' w' h3=>⟨h3.2.1,ih (listed.setIfInBounds j true) a' w' hun' hfree' (ready_mono hr (Ne.symm hji)) h3.1 ?_⟩) h2
   rw [Array.setIfInBounds_comm _ _ hji]
   exact h3.2.2
def Region.checkN (brk:List Nat) (md:Region.Mode) (ops:Array Oper):List (Nat×Nat)→Array Bool→Bool
 | [],listed=>Region.ready md ops listed==[]
 | (i,q)::r,listed =>
  (match ops[i]? with
   | none=>false
   | some _=>if q=2 then (Region.ready md ops listed).contains i && Region.freeK [] md ops listed i
    else if q=1 then (Region.ready md ops listed).contains i && Region.freeK brk md ops listed i else Region.ready md ops listed==[i]) &&
  Region.checkN brk md ops r (listed.setIfInBounds i true)
def yJ (R:World→World→Prop) (brk:List Nat) (P:Program) (ops:Array Oper) (Q:Exit→Act→World→Prop):List (Nat×Nat)→Act→World→Prop
 | [],a,w=>Q .normal a w
 | (i,q)::r,a,w =>
  match ops[i]? with
  | none=>False
  | some o =>
   if Region.wanted o (yielded ops a.tmps)=true then
    (if q=2 then ∃ v,(∀ w',(execOp a.eval o).run P w'=.ok (.value v) w')∧yJ R brk P ops Q r (a.put o.dst v) w
     else if q=1 then ∃ v,(∀ w',R w w'→(execOp a.eval o).run P w'=.ok (.value v) w')∧yJ R brk P ops Q r (a.put o.dst v) w
     else o.wp P a w (fun a' w'=>(brk.contains i=false→R w w')∧yJ R brk P ops Q r a' w') Q)
   else yJ R brk P ops Q r (a.put o.dst undef) w
theorem xh (hrf:∀ a,R a a) (ht:∀ a b c,R a b→R b c→R a c) (hs:Region.noSelect ops=true) (hQ:∀ c a w,¬ Q (.panic c) a w):∀ (order:List (Nat×Nat)) (listed:Array Bool) (a:Act) (w:World),
  Region.checkN brk md ops order listed=true→yJ R brk P ops Q order a w→qj R brk P md ops Q order.length listed a w
 | [],listed,a,w,hB,h=>by
  simp only [Region.checkN,beq_iff_eq] at hB
  exact ⟨hB,h⟩
 | (i,q)::r,listed,a,w,hB,h=>by
  simp only [Region.checkN,Bool.and_eq_true] at hB
  obtain ⟨hB1,hB2⟩:=hB
  cases ho:ops[i]? with
  | none=>simp [ho] at hB1
  | some o =>
   simp only [ho] at hB1
   simp only [yJ,ho] at h
   by_cases q2:q=2
   ·simp only [q2,if_true,Bool.and_eq_true] at hB1 h
    obtain ⟨D,hDi,hD,hDu,hDf⟩:=Region.freeK_spec ho hB1.2
    have hDf':∀ j oj,ops[j]? = some oj→j≠i→listed.getD j true=false→D j=false→o.apart ops oj=true:=fun j oj h1 h2 h3 h4=>(hDf j oj h1 h2 h3 h4).1
    by_cases hw:Region.wanted o (yielded ops a.tmps)=true
    ·rw [if_pos hw] at h
     obtain ⟨v,hv,hr⟩:=h
     exact Xi hrf ho (Region.noSelect_spec hs) (fun c a w hq=>absurd hq (hQ _ _ _)) D hDi hD r.length listed a w hDu hDf' (by simpa using hB1.1) (.inl ⟨hw,fun w' _=>hv w'⟩)
      (xh hrf ht hs hQ r _ _ _ hB2 hr)
    ·rw [if_neg hw] at h
     exact Xi hrf ho (Region.noSelect_spec hs) (fun c a w hq=>absurd hq (hQ _ _ _)) D hDi hD r.length listed a w hDu hDf' (by simpa using hB1.1) (.inr ⟨by simpa using hw,rfl⟩)
      (xh hrf ht hs hQ r _ _ _ hB2 h)
   ·simp only [if_neg q2] at hB1 h
    by_cases q1:q=1
    ·simp only [q1,if_true,Bool.and_eq_true] at hB1 h
     obtain ⟨D,hDi,hD,hDu,hDf⟩:=Region.freeK_spec ho hB1.2
     by_cases hw:Region.wanted o (yielded ops a.tmps)=true
     ·rw [if_pos hw] at h
      obtain ⟨v,hv,hr⟩:=h
      exact qW hrf ht ho (Region.noSelect_spec hs) (fun c a w hq=>absurd hq (hQ _ _ _)) D hDi hD r.length listed a w hDu hDf (by simpa using hB1.1) (.inl ⟨hw,hv⟩)
       (xh hrf ht hs hQ r _ _ _ hB2 hr)
     ·rw [if_neg hw] at h
      exact qW hrf ht ho (Region.noSelect_spec hs) (fun c a w hq=>absurd hq (hQ _ _ _)) D hDi hD r.length listed a w hDu hDf (by simpa using hB1.1) (.inr ⟨by simpa using hw,rfl⟩)
       (xh hrf ht hs hQ r _ _ _ hB2 h)
    ·simp only [if_neg q1,beq_iff_eq] at hB1 h
     refine ⟨fun h0=>(by rw [hB1] at h0;cases h0),fun j hj=>?_⟩
     rw [hB1] at hj
     obtain rfl:j=i:=by simpa using hj
     unfold wpOp
     simp only [ho]
     by_cases hw:Region.wanted o (yielded ops a.tmps)=true
     ·rw [if_pos hw] at h ⊢
      refine .inl (Oper.wp_mono ?_ h)
      intro a' w' h'
      refine ⟨h'.1,xh hrf ht hs hQ r _ _ _ hB2 h'.2⟩
     ·rw [if_neg hw] at h ⊢
      exact ⟨fun _=>hrf w,xh hrf ht hs hQ r _ _ _ hB2 h⟩
theorem kW {id:Nat} {l:List Oper} {a:Act} {w:World} (R:World→World→Prop) (brk:List Nat) (order:List (Nat×Nat)) (hrf:∀ a,R a a) (ht:∀ a b c,R a b→R b c→R a c) (hm:P.follows .mixedOrders=true)
  (hB:(Region.noSelect l.toArray && (order.length==l.length) && Region.checkN brk .any l.toArray order (Array.replicate l.length false))=true)
  (h:∀ w',w'=w.drew→yJ R brk P l.toArray (NoPanic Q) order a w'):(Code.region id l.toArray true).wp P Q a w:=by
 simp only [Bool.and_eq_true,beq_iff_eq] at hB
 obtain ⟨⟨hs,hl⟩,hB⟩:=hB
 refine wp_region_noPanic (wp_region_any hm (ZD (R:=R) (brk:=brk) _ _ _ _ ?_))
 have:=xh (R:=R) (brk:=brk) (P:=P) (Q:=NoPanic Q) hrf ht hs (fun c a w hq=>hq) order _ a w.drew hB (h _ rfl)
 rw [hl] at this
 exact this
theorem jA {a:Act} {w:World} (h:Q .normal a w):yJ R brk P ops (NoPanic Q) [] a w:=h
theorem yS {i:Nat} {r:List (Nat×Nat)} {o:Oper} {a:Act} {w:World} (ho:ops[i]? = some o) (hw:Region.wanted o (yielded ops a.tmps)=true)
  (h:∀ K:Act→World→Prop,(∀ a' w',(brk.contains i=false→R w w')→yJ R brk P ops Q r a' w'→K a' w')→o.wp P a w K Q):yJ R brk P ops Q ((i,0)::r) a w:=by
 simp only [yJ,ho,hw,if_true,if_neg (show ¬ (0=2) by omega),if_neg (show ¬ (0=1) by omega)]
 exact h _ fun _ _ h1 h2=>⟨h1,h2⟩
theorem walkN_one {i:Nat} {r:List (Nat×Nat)} {o:Oper} {tl:List Oper} {a:Act} {w:World} (hd:ops.toList.drop i=o::tl) (hk:o.kindR=0)
  (hh:∀ K:Act→Prop,(∀ a',yJ R brk P ops Q r a' w→K a')→wpQuiet P ops (KJ R w) K [o] a):yJ R brk P ops Q ((i,1)::r) a w:=by
 have h:=hh (fun a'=>yJ R brk P ops Q r a' w) (fun _ h=>h)
 have ho:ops[i]? = some o:=by
  have:=congrArg (·[0]?) hd
  simpa using this
 simp only [wpQuiet] at h
 simp only [yJ,ho,if_neg (show ¬ (1=2) by omega),if_true]
 by_cases hw:Region.wanted o (yielded ops a.tmps)=true
 ·rw [if_pos hw] at h ⊢
  obtain ⟨v,hv,hn⟩:=h
  exact ⟨v,fun w' hw'=>xv hk (hv w' ⟨⟨w',hw'⟩,rfl⟩),hn⟩
 ·rw [if_neg hw] at h ⊢
  exact h
theorem walkN_pure {i:Nat} {r:List (Nat×Nat)} {o:Oper} {tl:List Oper} {a:Act} {w:World} (hd:ops.toList.drop i=o::tl) (hk:o.kindR=0)
  (hh:∀ K:Act→Prop,(∀ a',yJ R brk P ops Q r a' w→K a')→wpQuiet P ops (KJ (fun _ _=>True) w) K [o] a):yJ R brk P ops Q ((i,2)::r) a w:=by
 have h:=hh (fun a'=>yJ R brk P ops Q r a' w) (fun _ h=>h)
 have ho:ops[i]? = some o:=by
  have:=congrArg (·[0]?) hd
  simpa using this
 simp only [wpQuiet] at h
 simp only [yJ,ho,if_true]
 by_cases hw:Region.wanted o (yielded ops a.tmps)=true
 ·rw [if_pos hw] at h ⊢
  obtain ⟨v,hv,hn⟩:=h
  exact ⟨v,fun w'=>xv hk (hv w' ⟨⟨w',trivial⟩,rfl⟩),hn⟩
 ·rw [if_neg hw] at h ⊢
  exact h
instance (w:World):Nonempty (xR (fun _ _=>True) w):=⟨⟨w,trivial⟩⟩
end
end Go
namespace Go.Proofs.YtjaioajjfiaheaaGreatDoor
open Go.RowKit Go.Mem Go.Ops Go.Cells Go.Oct Go.Trn Go.Cha
attribute [local irreducible] zE zN zO zM yJ
theorem yW:Row Tryz.prog 242 16:=⟨by kernel_rfl,by kernel_rfl⟩
theorem zao {fn:Func} {t u v x:Tmp} (h:fn.results=#[.tmp t,.tmp u,.tmp v,.tmp x]) (tmps:Array Value) (P:Program) (w:World) :
  (results fn tmps).run P w=.ok (.tuple #[tmps.getD t undef,tmps.getD u undef,tmps.getD v undef,tmps.getD x undef]) w:=by
 simp [results,h]
def zkl (n:Nat):Prop:=n=16∨n=12∨n=8∨n=7
theorem zkm (x:UInt32) (n:Nat) (w:World) (hn:zkl n):Calls Tryz.prog 186 #[W x,.int .i64 n] w fun e w'=>e=.returned (W (zf2 x n))∧w=w':=by
 rcases hn with rfl | rfl | rfl | rfl
 ·show Calls _ _ #[W x,.int .i64 16] w _
  have hz2:bits .and .u64 16 31=16:=by decide
  go_enter Tryz.func186,Tryz.ntmps186
  go_wp2
  go_ret
  exact ⟨rfl,rfl⟩
 ·show Calls _ _ #[W x,.int .i64 12] w _
  have hz2:bits .and .u64 12 31=12:=by decide
  go_enter Tryz.func186,Tryz.ntmps186
  go_wp2
  go_ret
  exact ⟨rfl,rfl⟩
 ·show Calls _ _ #[W x,.int .i64 8] w _
  have hz2:bits .and .u64 8 31=8:=by decide
  go_enter Tryz.func186,Tryz.ntmps186
  go_wp2
  go_ret
  exact ⟨rfl,rfl⟩
 ·show Calls _ _ #[W x,.int .i64 7] w _
  have hz2:bits .and .u64 7 31=7:=by decide
  go_enter Tryz.func186,Tryz.ntmps186
  go_wp2
  go_ret
  exact ⟨rfl,rfl⟩
theorem KP (a b d:UInt32) (n:Nat) (w:World) (hn:zkl n):Calls Tryz.prog 184 #[W a,W b,W d,.int .i64 n] w fun e w'=>e=.returned (.tuple #[W (jI a b),W (zf2 (y5 d (jI a b)) n)])∧w=w':=by
 have HN:=znq hn
 clear hn
 go_enter Tryz.func184,Tryz.ntmps184
 go_wp2_with fail
 refine (zkm _ n _ HN.znr).mono ?_
 rintro e w1 ⟨rfl,rfl⟩
 go_wp2
 go_ret2
 exact ⟨rfl,rfl⟩
def zkn (f:zac):Array Value:=#[W f.a,W f.b,W f.c,W f.d]
theorem ze4 (f:zac) (w:World):Calls Tryz.prog 180 (zkn f) w fun e w'=>e=.returned (.tuple (zkn (quarter f)))∧w=w':=by
 obtain ⟨a,b,c,d⟩:=f
 show Calls _ _ #[W a,W b,W c,W d] w _
 obtain ⟨g1,h1⟩:∃ g,g=q1 ⟨a,b,c,d⟩ 16:=⟨_,rfl⟩
 obtain ⟨g2,h2⟩:∃ g,g=q2 g1 12:=⟨_,rfl⟩
 obtain ⟨g3,h3⟩:∃ g,g=q1 g2 8:=⟨_,rfl⟩
 obtain ⟨g4,h4⟩:∃ g,g=q2 g3 7:=⟨_,rfl⟩
 have HE:=znq (show quarter ⟨a,b,c,d⟩=g4∧True from ⟨by rw [h4,h3,h2,h1];rfl,trivial⟩)
 obtain ⟨a1,b1,c1,d1⟩:=g1
 obtain ⟨a2,b2,c2,d2⟩:=g2
 obtain ⟨a3,b3,c3,d3⟩:=g3
 obtain ⟨a4,b4,c4,d4⟩:=g4
 simp only [q1,q2,zac.mk.injEq] at h1 h2 h3 h4
 have H1:=znq (And.intro h1 trivial)
 have H2:=znq (And.intro h2 trivial)
 have H3:=znq (And.intro h3 trivial)
 have H4:=znq (And.intro h4 trivial)
 clear h1 h2 h3 h4
 go_enter Tryz.func180,Tryz.ntmps180
 go_wp2_with fail
 refine (KP a b d 16 _ (.inl rfl)).mono ?_
 rintro e w1 ⟨rfl,rfl⟩
 rw [← H1.znr.1.2.2.2,← H1.znr.1.1]
 go_wp2_with fail
 refine (KP c d1 b 12 _ (.inr (.inl rfl))).mono ?_
 rintro e w1 ⟨rfl,rfl⟩
 obtain ⟨rfl,rfl⟩:b1=b∧c1=c:=⟨H1.znr.1.2.1,H1.znr.1.2.2.1⟩
 rw [← H2.znr.1.2.1,← H2.znr.1.2.2.1]
 go_wp2_with fail
 obtain ⟨rfl,rfl⟩:a2=a1∧d2=d1:=⟨H2.znr.1.1,H2.znr.1.2.2.2⟩
 refine (KP a2 b2 d2 8 _ (.inr (.inr (.inl rfl)))).mono ?_
 rintro e w1 ⟨rfl,rfl⟩
 rw [← H3.znr.1.2.2.2,← H3.znr.1.1]
 go_wp2_with fail
 obtain ⟨rfl,rfl⟩:b3=b2∧c3=c2:=⟨H3.znr.1.2.1,H3.znr.1.2.2.1⟩
 refine (KP c3 d3 b3 7 _ (.inr (.inr (.inr rfl)))).mono ?_
 rintro e w1 ⟨rfl,rfl⟩
 rw [← H4.znr.1.2.1,← H4.znr.1.2.2.1]
 go_wp2
 (try simp only [Exit.inBlock,Exit.then])
 refine bodyPost_ret (zao rfl _ _ _) rfl ?_
 rw [HE.znr.1]
 obtain ⟨rfl,rfl⟩:a4=a3∧d4=d3:=⟨H4.znr.1.1,H4.znr.1.2.2.2⟩
 exact ⟨rfl,rfl⟩
instance (w:World):Nonempty (xR (fun u v=>Below u.heap.size u v) w):=⟨⟨w,Below.refl _ _⟩⟩
theorem J7 (pv y:Nat) (vs:List UInt32) (w:World) (hb:Blk w pv (vs.map W) 242) (hl:vs.length=16) (hy:y < 2) :
  Calls Tryz.prog 176 #[.pointer (some ⟨pv,0,none⟩),.int .i64 y] w fun e w'=>(∃ v,e=.returned v)∧Blk w' pv ((jd y vs 4).map W) 242∧Only pv w w':=by
 have HB:=znq hb
 have HL:=znq (show vs.length=16∧True from ⟨hl,trivial⟩)
 have HO:=znq (Only.refl pv w)
 have m2:IntKind.i64.wrap (2*(y:Int))=2*(y:Int):=IntWalk.i64_in _ (by omega)
 have m3:IntKind.i64.wrap (3*(y:Int))=3*(y:Int):=IntWalk.i64_in _ (by omega)
 clear hb hl
 go_enter Tryz.func176,Tryz.ntmps176
 go_wp2
 go_loopw [8] (fun c wr=>∃ (i:Nat),i≤4∧c=.int .i64 i∧Hid (Blk wr pv ((jd y vs i).map W) 242)∧Hid (Only pv w wr)) (fun c _=>4 - (intOf c).toNat)
 case atStart=>exact ⟨0,by omega,rfl,HB,HO⟩
 case round =>
  clear HB HO
  obtain ⟨i,hi,rfl,HB,HO⟩:=hrel
  by_cases hlt:i < 4
  ·obtain ⟨r1,hr1⟩:∃ r1,r1=(i+y) % 4:=⟨_,rfl⟩
   obtain ⟨r2,hr2⟩:∃ r1,r1=(i+2*y) % 4:=⟨_,rfl⟩
   obtain ⟨r3,hr3⟩:∃ r1,r1=(i+3*y) % 4:=⟨_,rfl⟩
   obtain ⟨b1,hb1⟩:∃ r,r=4+r1:=⟨_,rfl⟩
   obtain ⟨b2,hb2⟩:∃ r,r=8+r2:=⟨_,rfl⟩
   obtain ⟨b3,hb3⟩:∃ r,r=12+r3:=⟨_,rfl⟩
   have e1:((i:Int)+(y:Int)) % 4=(r1:Int):=by omega
   have e2:((i:Int)+2*(y:Int)) % 4=(r2:Int):=by omega
   have e3:((i:Int)+3*(y:Int)) % 4=(r3:Int):=by omega
   have f1:(4:Int)+(r1:Int)=(b1:Int):=by omega
   have f2:(8:Int)+(r2:Int)=(b2:Int):=by omega
   have f3:(12:Int)+(r3:Int)=(b3:Int):=by omega
   obtain ⟨us,hus⟩:∃ us,us=jd y vs i:=⟨_,rfl⟩
   have HE:=znq (show jd y vs (i+1)=Zp us i b1 b2 b3∧True from ⟨by rw [hb1,hb2,hb3,hr1,hr2,hr3,hus];rfl,trivial⟩)
   have HL1:=znq (show us.length=16∧True from ⟨by rw [hus,qT];exact HL.znr.1,trivial⟩)
   have g1:b1 < 16:=by omega
   have g2:b2 < 16:=by omega
   have g3:b3 < 16:=by omega
   rw [← hus] at HB
   clear hus hb1 hb2 hb3 hr1 hr2 hr3
   obtain ⟨f,hf⟩:∃ f,f=quarter ⟨yR us i,yR us b1,yR us b2,yR us b3⟩:=⟨_,rfl⟩
   have HF:=znq (show quarter ⟨yR us i,yR us b1,yR us b2,yR us b3⟩=f∧True from ⟨hf.symm,trivial⟩)
   have HQ:=znq (show Zp us i b1 b2 b3=(((us.set i f.a).set b1 f.b).set b2 f.c).set b3 f.d∧True from ⟨by rw [hf];rfl,trivial⟩)
   clear hf
   have hc0:=fun (x:xR (fun u v=>Below u.heap.size u v) wr.drew)=>(HB.znr.drew.below x.rel HB.znr.drew.lt).cell i _ (kz (qO (l:=us) (i:=i) (by rw [HL1.znr.1];omega)))
   have hc1:=fun (x:xR (fun u v=>Below u.heap.size u v) wr.drew)=>(HB.znr.drew.below x.rel HB.znr.drew.lt).cell b1 _ (kz (qO (l:=us) (i:=b1) (by rw [HL1.znr.1];omega)))
   have hc2:=fun (x:xR (fun u v=>Below u.heap.size u v) wr.drew)=>(HB.znr.drew.below x.rel HB.znr.drew.lt).cell b2 _ (kz (qO (l:=us) (i:=b2) (by rw [HL1.znr.1];omega)))
   have hc3:=fun (x:xR (fun u v=>Below u.heap.size u v) wr.drew)=>(HB.znr.drew.below x.rel HB.znr.drew.lt).cell b3 _ (kz (qO (l:=us) (i:=b3) (by rw [HL1.znr.1];omega)))
   go_wp2_with fail
   refine kW (fun u v=>Below u.heap.size u v) [36,39,42,45] [(0,2),(1,2),(2,2),(3,2),(4,2),(5,2),(6,2),(7,2),(8,2),(9,2),(10,2),(11,2),(12,1),(13,2),(14,2),(15,2),(16,2),(17,1),(18,2),(19,2),(20,2),(21,2),(22,1),(23,2),(24,2),(25,2),(26,2),(27,1),(34,2),(37,2),(40,2),(43,2),(28,0),(29,2),(30,2),(31,2),(32,2),(33,2),(35,2),(36,0),(38,2),(39,0),(41,2),(42,0),(44,2),(45,0)] (fun a=>Below.refl _ a) (fun _ _ _ h1 h2=>h1.trans (h2.mono h1.size)) (by kernel_rfl) (by kernel_rfl) ?_
   rintro w1 rfl
   have HB:=znq HB.znr.drew
   have HO:=znq (Zm HO.znr)
   refine mqN ?_
   clear hc0 hc1 hc2 hc3
   refine yS rfl (by rfl) (fun K hK=>?_)
   go_simp
   refine (ze4 ⟨yR us i,yR us b1,yR us b2,yR us b3⟩ _).mono ?_
   rintro e w2 ⟨rfl,rfl⟩
   rw [HF.znr.1]
   unfold zkn
   go_simp
   refine hK _ _ (fun _=>Below.refl _ _) ?_
   clear hK K
   refine mqN ?_
   refine yS rfl (by rfl) (fun K hK=>?_)
   refine HB.znr.opset (v:=W f.a) rfl rfl rfl yt rfl rfl (by rw [List.length_map,HL1.znr.1];omega) (fun w2 hb2 ho2=>hK _ _ (fun h=>by cases h) ?_)
   clear hK K
   rw [xI] at hb2
   have HB:=znq hb2
   have HO:=znq (HO.znr.trans ho2)
   clear hb2 ho2
   go_simp
   refine mqN ?_
   refine yS rfl (by rfl) (fun K hK=>?_)
   refine HB.znr.opset (v:=W f.b) rfl rfl rfl yt rfl rfl (by rw [List.length_map,List.length_set,HL1.znr.1];omega) (fun w2 hb2 ho2=>hK _ _ (fun h=>by cases h) ?_)
   clear hK K
   rw [xI] at hb2
   have HB:=znq hb2
   have HO:=znq (HO.znr.trans ho2)
   clear hb2 ho2
   go_simp
   refine mqN ?_
   refine yS rfl (by rfl) (fun K hK=>?_)
   refine HB.znr.opset (v:=W f.c) rfl rfl rfl yt rfl rfl (by rw [List.length_map,List.length_set,List.length_set,HL1.znr.1];omega) (fun w2 hb2 ho2=>hK _ _ (fun h=>by cases h) ?_)
   clear hK K
   rw [xI] at hb2
   have HB:=znq hb2
   have HO:=znq (HO.znr.trans ho2)
   clear hb2 ho2
   go_simp
   refine mqN ?_
   refine yS rfl (by rfl) (fun K hK=>?_)
   refine HB.znr.opset (v:=W f.d) rfl rfl rfl yt rfl rfl (by rw [List.length_map,List.length_set,List.length_set,List.length_set,HL1.znr.1];omega) (fun w2 hb2 ho2=>hK _ _ (fun h=>by cases h) ?_)
   clear hK K
   rw [xI,← HQ.znr.1,← HE.znr.1] at hb2
   have HB:=znq hb2
   have HO:=znq (HO.znr.trans ho2)
   clear hb2 ho2
   go_simp
   refine jA ?_
   go_wp2
   go_roundw
   case rel=>exact ⟨i+1,by omega,by go_num,HB,HO⟩
   case measure=>simp [intOf];omega
  ·obtain rfl:i=4:=by omega
   go_wp2
   go_end0
   exact ⟨⟨_,rfl⟩,HB.znr,HO.znr⟩
end Go.Proofs.YtjaioajjfiaheaaGreatDoor

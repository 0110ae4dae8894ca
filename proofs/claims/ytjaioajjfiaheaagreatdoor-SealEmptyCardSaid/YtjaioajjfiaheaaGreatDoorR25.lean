/-
  Texts of this claim, one behind the other.
-/
import Derived.Test.YtjaioajjfiaheaaGreatDoorR1
import Derived.Test.YtjaioajjfiaheaaGreatDoorR22
import Derived.Test.YtjaioajjfiaheaaGreatDoorR24
import Derived.Test.YtjaioajjfiaheaaGreatDoorR19
import Derived.Test.YtjaioajjfiaheaaGreatDoorR20
import Derived.Lib.Hide
set_option linter.unusedVariables false
set_option linter.unusedSimpArgs false
set_option maxHeartbeats 16000000
set_option maxRecDepth 100000
namespace Go.Wid
theorem Q1 (alg:Int) {n:Nat} (h:znv alg n=0):(alg=1∧n=32)∨(alg=2∧(n=16∨n=24∨n=32))∨(alg=3∧0 < n∧n≤128):=by
 unfold znv at h
 by_cases h1:alg=1
 ·rw [if_pos h1] at h
  by_cases h2:n=32
  ·exact .inl ⟨h1,h2⟩
  ·rw [if_neg h2] at h;omega
 ·rw [if_neg h1] at h
  by_cases h2:alg=2
  ·rw [if_pos h2] at h
   by_cases h3:n=16∨n=24∨n=32
   ·exact .inr (.inl ⟨h2,h3⟩)
   ·rw [if_neg h3] at h;omega
  ·rw [if_neg h2] at h
   by_cases h3:alg=3
   ·rw [if_pos h3] at h
    by_cases h4:0 < n∧n≤128
    ·exact .inr (.inr ⟨h3,h4⟩)
    ·rw [if_neg h4] at h;omega
   ·rw [if_neg h3] at h;omega
theorem zdt {alg:Int} {key:List UInt8} (h:znv alg key.length=0):((jy alg key).alg:Int)=alg:=by
 rcases Q1 alg h with ⟨rfl,_⟩ | ⟨rfl,_⟩ | ⟨rfl,_⟩ <;> rfl
end Go.Wid
namespace Go.Proofs.YtjaioajjfiaheaaGreatDoor
open Go.RowKit Go.Mem Go.Ops Go.Cells Go.Oct Go.Gf Go.Trn Go.Aes Go.Ring Go.Ezk Go.Ezh Go.Ezt Go.Ezc Go.Aez Go.Blake Go.CutP Go.Fl Go.Adi Go.Hct Go.Wid
attribute [local irreducible] zE zN zO zM yu
theorem Qy:Tryz.prog.concrete 141=true:=by kernel_rfl
theorem Qz:Tryz.prog.concrete 144=true:=by kernel_rfl
def Vn (w:World) (own:Value):ku→Prop
 | .adi k=>∃ b,own=.iface 141 (.pointer (some ⟨b,0,none⟩))∧Vm w b k
 | .hct k=>∃ b,own=.iface 144 (.pointer (some ⟨b,0,none⟩))∧Z5 w b k
 | .aez k=>∃ kp q p,own=.iface 93 (.agg #[.pointer (some ⟨kp,0,none⟩)])∧xH w kp q p k
theorem Vn.later {w w':World} {own:Value} {k:ku} (h:Vn w own k) (hb:Below w.heap.size w w'):Vn w' own k:=by
 cases k with
 | adi k=>obtain ⟨b,h1,h2⟩:=h;exact ⟨b,h1,h2.later hb⟩
 | hct k=>obtain ⟨b,h1,h2⟩:=h;exact ⟨b,h1,h2.later hb⟩
 | aez k=>obtain ⟨kp,q,p,h1,h2⟩:=h;exact ⟨kp,q,p,h1,h2.later hb⟩
theorem Vn.face {w:World} {own:Value} {k:ku} (h:Vn w own k):∃ T x,own=.iface T x:=by
 cases k with
 | adi k=>obtain ⟨b,h1,h2⟩:=h;exact ⟨_,_,h1⟩
 | hct k=>obtain ⟨b,h1,h2⟩:=h;exact ⟨_,_,h1⟩
 | aez k=>obtain ⟨kp,q,p,h1,h2⟩:=h;exact ⟨_,_,h1⟩
def qu (w:World) (cp:Nat) (k:ku):Prop:=∃ v,Vn w v k∧Blk w cp [.int .i64 (k.alg:Int),v] 113
theorem qu.later {w w':World} {cp:Nat} {k:ku} (h:qu w cp k) (hb:Below w.heap.size w w'):qu w' cp k:=by
 obtain ⟨v,h1,h2⟩:=h
 exact ⟨v,h1.later hb,h2.below hb h2.lt⟩
theorem zdu (alg:Int) (q p:Nat) (ao:Option Addr) (n cap:Nat) (b:List UInt8) (w:World) (hb:b.length=n) (hw:znv alg n=0) (hc:n≤cap) (hl:zr w ao (b.map B)) (ht:Tab w q p) (hg:qD w) :
  Calls Tryz.prog 70 #[.pointer (some ⟨q,0,none⟩),.int .i64 alg,.slice ao n cap] w fun e w'=>∃ v,e=.returned (.tuple #[v,.int .i64 0])∧Std w.heap.size [q,p] w' (fun w''=>Vn w'' v (jy alg b))∧Below w.heap.size w w':=by
 rcases Q1 alg hw with ⟨rfl,rfl⟩ | ⟨rfl,h2⟩ | ⟨rfl,h3,h4⟩
 ·have H:=znq (zlb q p ao cap b w hb hc hl ht)
  have hmk:=fun (x:Value) (w:World)=>run_makeInterface (P:=Tryz.prog) (w:=w) 141 x Qy
  clear hb hw hl ht hg
  go_enter Tryz.func70,Tryz.ntmps70
  go_wp2_with fail
  refine H.out.mono ?_
  rintro e w1 ⟨cp,rfl,hup,hbel⟩
  have HU:=znq hup
  have HB:=znq hbel
  clear hup hbel
  go_wp2
  go_ret2
  exact ⟨_,rfl,HU.znr.imp (fun _ h=>⟨_,rfl,h⟩),HB.znr⟩
 ·have H:Calls Tryz.prog 94 #[.pointer (some ⟨q,0,none⟩),.slice ao n cap] w fun e w'=>∃ cp,e=.returned (.tuple #[.pointer (some ⟨cp,0,none⟩),.int .i64 0])∧Std w.heap.size [q,p] w' (fun w''=>Z5 w'' cp (J0 (b.length / 4) (b.length==32) b))∧Below w.heap.size w w':=by
   rcases h2 with rfl | rfl | rfl
   ·rw [hb];exact zle q p ao cap b w ht hb hl
   ·rw [hb];exact zld q p ao cap b w ht hb hl
   ·rw [hb];exact zlc q p ao cap b w ht hb hl
  have H:=znq H
  have hmk:=fun (x:Value) (w:World)=>run_makeInterface (P:=Tryz.prog) (w:=w) 144 x Qz
  clear hb hw hl ht hg h2
  go_enter Tryz.func70,Tryz.ntmps70
  go_wp2_with fail
  refine H.out.mono ?_
  rintro e w1 ⟨cp,rfl,hup,hbel⟩
  have HU:=znq hup
  have HB:=znq hbel
  clear hup hbel
  go_wp2
  go_ret2
  exact ⟨_,rfl,HU.znr.imp (fun _ h=>⟨_,rfl,h⟩),HB.znr⟩
 ·refine (JI q p ao n cap b w hb h3 h4 hc hl ht hg).mono ?_
  rintro e w1 ⟨kp,rfl,hk,hle,hbel⟩
  exact ⟨_,rfl,fun S w'' hS hu=>⟨kp,q,p,rfl,⟨⟨hk.tab.boxes.up hu (hS _ (.inr (by simp))),hk.tab.tab.up hu (hS _ (.inr (by simp)))⟩,hk.fit,hk.blk.up hu (hS _ (.inl hle))⟩⟩,hbel⟩
theorem zgk (alg:Int) (q p:Nat) (ao:Option Addr) (n cap:Nat) (b:List UInt8) (w:World) (hb:b.length=n) (hw:znv alg n=0) (hc:n≤cap) (hl:zr w ao (b.map B)) (ht:Tab w q p) (hg:qD w) :
  Calls Tryz.prog 38 #[.pointer (some ⟨q,0,none⟩),.int .i64 alg,.slice ao n cap] w fun e w'=>∃ cp,e=.returned (.tuple #[.pointer (some ⟨cp,0,none⟩),.int .i64 0])∧Std w.heap.size [q,p] w' (fun w''=>qu w'' cp (jy alg b))∧Below w.heap.size w w':=by
 have H:=znq (zdu alg q p ao n cap b w hb hw hc hl ht hg)
 have HA:=znq (zdt (alg:=alg) (key:=b) (by rw [hb];exact hw))
 clear hb hw hl ht hg
 obtain ⟨k,hkk⟩:∃ k,k=jy alg b:=⟨_,rfl⟩
 rw [← hkk] at H HA ⊢
 clear hkk
 go_enter Tryz.func38,Tryz.ntmps38
 go_wp2_with fail
 refine H.out.mono ?_
 rintro e w1 ⟨v,rfl,hup,hbel⟩
 obtain ⟨T,x,rfl⟩:=hup.self.face
 have HU:=znq hup
 have HB:=znq hbel
 have HZ1:=znq hbel.size
 clear hup hbel
 go_wp2_with (refine zh 113 _ [.int .i64 alg,.iface T x] _ rfl rfl rfl rfl ?_)
 intro w2 hb2 hbel2
 have HB:=znq (HB.znr.trans (hbel2.mono HB.znr.size))
 have HU:=znq (show Std w.heap.size [q,p] w2 (fun w''=>qu w'' w1.heap.size k) from fun S w'' hS hu=>⟨_,HU.znr.later hbel2 S w'' hS hu,by rw [HA.znr];exact hb2.up hu (hS _ (.inl HZ1.znr))⟩)
 clear hb2 hbel2
 go_wp2
 go_ret2
 exact ⟨_,rfl,HU.znr,HB.znr⟩
theorem znd (cp:Nat) (k:ku) (w:World) (hc:qu w cp k):Calls Tryz.prog 101 #[.pointer (some ⟨cp,0,none⟩)] w fun e w'=>e=.returned (.int .i64 (k.alg:Int))∧w=w':=by
 obtain ⟨v,h1,h2⟩:=hc
 have hc0:=h2.cell 0 _ rfl
 clear h1 h2
 generalize k.alg=a at *
 go_enter Tryz.func101,Tryz.ntmps101
 go_wp2
 go_ret
 exact ⟨rfl,rfl⟩
theorem vH (cp:Nat) (k:ku) (w:World) (hc:qu w cp k):Calls Tryz.prog 90 #[.pointer (some ⟨cp,0,none⟩)] w fun e w'=>e=.returned (.int .i64 (k.least:Int))∧w=w':=by
 obtain ⟨v,h1,h2⟩:=hc
 have hc0:=h2.cell 0 _ rfl
 clear h1 h2
 cases k with
 | adi k =>
  have hc0:w.cell? ⟨cp,0,none⟩=some (.int .i64 1):=hc0
  go_enter Tryz.func90,Tryz.ntmps90
  go_wp2
  go_ret
  exact ⟨rfl,rfl⟩
 | hct k =>
  have hc0:w.cell? ⟨cp,0,none⟩=some (.int .i64 2):=hc0
  go_enter Tryz.func90,Tryz.ntmps90
  go_wp2
  go_ret
  exact ⟨rfl,rfl⟩
 | aez k =>
  have hc0:w.cell? ⟨cp,0,none⟩=some (.int .i64 3):=hc0
  go_enter Tryz.func90,Tryz.ntmps90
  go_wp2
  go_ret
  exact ⟨rfl,rfl⟩
theorem Q2 (cp:Nat) (k:ku) (t:Value) (bo:Option Addr) (n cb:Nat) (back:Bool) (w:World) (hc:qu w cp k) (hn:n < k.least) :
  Calls Tryz.prog 63 #[.pointer (some ⟨cp,0,none⟩),t,.slice bo n cb,.bool back] w fun e w'=>e=.returned (.tuple #[.slice none 0 0,.int .i64 7])∧w=w':=by
 have HC:=znq (vH cp k w hc)
 have d1:decide (n < k.least)=true:=decide_eq_true hn
 clear hc
 generalize k.least=l at *
 go_enter Tryz.func63,Tryz.ntmps63
 go_wp2_with fail
 refine HC.znr.mono ?_
 rintro e w1 ⟨rfl,rfl⟩
 go_wp2
 go_ret2
 exact ⟨rfl,rfl⟩
theorem VV (cp:Nat) (k:ku) (ao:Option Addr) (tn tc:Nat) (t:List UInt8) (bo:Option Addr) (n cb:Nat) (m:List UInt8) (w:World) (hk:qu w cp k) (ht:t.length=tn) (ht1:tn≤10000) (htc:tn≤tc) (hlt:zr w ao (t.map B))
  (hn:m.length=n) (h1:k.least≤n) (h31:n≤20000) (hcb:n≤cb) (hl:zr w bo (m.map B)) :
  Calls Tryz.prog 63 #[.pointer (some ⟨cp,0,none⟩),.slice ao tn tc,.slice bo n cb,.bool false] w fun e w'=>∃ v,e=.returned (.tuple #[v,.int .i64 0])∧w'.ownsRow w.heap.size 5 1 v n ((xM k t m false).map B)∧Below w.heap.size w w':=by
 have HL:=znq (vH cp k w hk)
 have d1:decide ((n:Int) < (k.least:Int))=false:=by simp;omega
 obtain ⟨v,hv,hblk⟩:=hk
 have hc1:=hblk.cell 1 _ rfl
 cases k with
 | adi k =>
  obtain ⟨b,rfl,hv⟩:=hv
  have H:=znq (zlg b k ao tn tc t bo n cb m w hv ht ht1 htc hlt hn h1 h31 hcb hl)
  have d1:decide ((n:Int) < 16)=false:=d1
  have HL:Hid (Calls Tryz.prog 90 #[.pointer (some ⟨cp,0,none⟩)] w fun e w'=>e=.returned (.int .i64 16)∧w=w'):=HL
  have HR:=znq (show xM (.adi k) t m false=XK k t m∧True from ⟨rfl,trivial⟩)
  rw [HR.znr.1]
  clear hv hblk ht hlt hn h1 hl HR
  go_enter Tryz.func63,Tryz.ntmps63
  go_wp2_with fail
  refine HL.znr.mono ?_
  rintro e w1 ⟨rfl,rfl⟩
  go_wp2_with fail
  refine H.out.mono ?_
  rintro e w3 ⟨v3,rfl,hown,hbel⟩
  have HO:=znq hown
  have HB:=znq hbel
  clear hown hbel
  go_wp2
  go_ret2
  exact ⟨_,rfl,HO.znr,HB.znr⟩
 | hct k =>
  obtain ⟨b,rfl,hv⟩:=hv
  have H:=znq (zli b k ao tn tc t bo n cb m w hv ht ht1 htc hlt hn h1 h31 hcb hl)
  have d1:decide ((n:Int) < 16)=false:=d1
  have HL:Hid (Calls Tryz.prog 90 #[.pointer (some ⟨cp,0,none⟩)] w fun e w'=>e=.returned (.int .i64 16)∧w=w'):=HL
  have HR:=znq (show xM (.hct k) t m false=zam k t m∧True from ⟨rfl,trivial⟩)
  rw [HR.znr.1]
  clear hv hblk ht hlt hn h1 hl HR
  go_enter Tryz.func63,Tryz.ntmps63
  go_wp2_with fail
  refine HL.znr.mono ?_
  rintro e w1 ⟨rfl,rfl⟩
  go_wp2_with fail
  refine H.out.mono ?_
  rintro e w3 ⟨v3,rfl,hown,hbel⟩
  have HO:=znq hown
  have HB:=znq hbel
  clear hown hbel
  go_wp2
  go_ret2
  exact ⟨_,rfl,HO.znr,HB.znr⟩
 | aez k =>
  obtain ⟨kp,q,p,rfl,hv⟩:=hv
  have H:=znq (zc2 kp q p k ao tn tc t bo n cb m w hv ht ht1 htc hlt hn h1 h31 hcb hl)
  have d1:decide ((n:Int) < 1)=false:=d1
  have HL:Hid (Calls Tryz.prog 90 #[.pointer (some ⟨cp,0,none⟩)] w fun e w'=>e=.returned (.int .i64 1)∧w=w'):=HL
  have HR:=znq (show xM (.aez k) t m false=rowA k [t] m false∧True from ⟨rfl,trivial⟩)
  rw [HR.znr.1]
  clear hv hblk ht hlt hn h1 hl HR
  go_enter Tryz.func63,Tryz.ntmps63
  go_wp2_with fail
  refine HL.znr.mono ?_
  rintro e w1 ⟨rfl,rfl⟩
  go_wp2_with fail
  refine H.out.mono ?_
  rintro e w3 ⟨v3,rfl,hown,hbel⟩
  have HO:=znq hown
  have HB:=znq hbel
  clear hown hbel
  go_wp2
  go_ret2
  exact ⟨_,rfl,HO.znr,HB.znr⟩
theorem za4 (cp:Nat) (k:ku) (ao:Option Addr) (tn tc:Nat) (t:List UInt8) (bo:Option Addr) (n cb:Nat) (m:List UInt8) (w:World) (hk:qu w cp k) (ht:t.length=tn) (ht1:tn≤10000) (htc:tn≤tc) (hlt:zr w ao (t.map B))
  (hn:m.length=n) (h1:k.least≤n) (h31:n≤20000) (hcb:n≤cb) (hl:zr w bo (m.map B)) :
  Calls Tryz.prog 63 #[.pointer (some ⟨cp,0,none⟩),.slice ao tn tc,.slice bo n cb,.bool true] w fun e w'=>∃ v,e=.returned (.tuple #[v,.int .i64 0])∧w'.ownsRow w.heap.size 5 1 v n ((xM k t m true).map B)∧Below w.heap.size w w':=by
 have HL:=znq (vH cp k w hk)
 have d1:decide ((n:Int) < (k.least:Int))=false:=by simp;omega
 obtain ⟨v,hv,hblk⟩:=hk
 have hc1:=hblk.cell 1 _ rfl
 cases k with
 | adi k =>
  obtain ⟨b,rfl,hv⟩:=hv
  have H:=znq (zlh b k ao tn tc t bo n cb m w hv ht ht1 htc hlt hn h1 h31 hcb hl)
  have d1:decide ((n:Int) < 16)=false:=d1
  have HL:Hid (Calls Tryz.prog 90 #[.pointer (some ⟨cp,0,none⟩)] w fun e w'=>e=.returned (.int .i64 16)∧w=w'):=HL
  have HR:=znq (show xM (.adi k) t m true=XL k t m∧True from ⟨rfl,trivial⟩)
  rw [HR.znr.1]
  clear hv hblk ht hlt hn h1 hl HR
  go_enter Tryz.func63,Tryz.ntmps63
  go_wp2_with fail
  refine HL.znr.mono ?_
  rintro e w1 ⟨rfl,rfl⟩
  go_wp2_with fail
  refine H.out.mono ?_
  rintro e w3 ⟨v3,rfl,hown,hbel⟩
  have HO:=znq hown
  have HB:=znq hbel
  clear hown hbel
  go_wp2
  go_ret2
  exact ⟨_,rfl,HO.znr,HB.znr⟩
 | hct k =>
  obtain ⟨b,rfl,hv⟩:=hv
  have H:=znq (zlj b k ao tn tc t bo n cb m w hv ht ht1 htc hlt hn h1 h31 hcb hl)
  have d1:decide ((n:Int) < 16)=false:=d1
  have HL:Hid (Calls Tryz.prog 90 #[.pointer (some ⟨cp,0,none⟩)] w fun e w'=>e=.returned (.int .i64 16)∧w=w'):=HL
  have HR:=znq (show xM (.hct k) t m true=zan k t m∧True from ⟨rfl,trivial⟩)
  rw [HR.znr.1]
  clear hv hblk ht hlt hn h1 hl HR
  go_enter Tryz.func63,Tryz.ntmps63
  go_wp2_with fail
  refine HL.znr.mono ?_
  rintro e w1 ⟨rfl,rfl⟩
  go_wp2_with fail
  refine H.out.mono ?_
  rintro e w3 ⟨v3,rfl,hown,hbel⟩
  have HO:=znq hown
  have HB:=znq hbel
  clear hown hbel
  go_wp2
  go_ret2
  exact ⟨_,rfl,HO.znr,HB.znr⟩
 | aez k =>
  obtain ⟨kp,q,p,rfl,hv⟩:=hv
  have H:=znq (zc3 kp q p k ao tn tc t bo n cb m w hv ht ht1 htc hlt hn h1 h31 hcb hl)
  have d1:decide ((n:Int) < 1)=false:=d1
  have HL:Hid (Calls Tryz.prog 90 #[.pointer (some ⟨cp,0,none⟩)] w fun e w'=>e=.returned (.int .i64 1)∧w=w'):=HL
  have HR:=znq (show xM (.aez k) t m true=rowA k [t] m true∧True from ⟨rfl,trivial⟩)
  rw [HR.znr.1]
  clear hv hblk ht hlt hn h1 hl HR
  go_enter Tryz.func63,Tryz.ntmps63
  go_wp2_with fail
  refine HL.znr.mono ?_
  rintro e w1 ⟨rfl,rfl⟩
  go_wp2_with fail
  refine H.out.mono ?_
  rintro e w3 ⟨v3,rfl,hown,hbel⟩
  have HO:=znq hown
  have HB:=znq hbel
  clear hown hbel
  go_wp2
  go_ret2
  exact ⟨_,rfl,HO.znr,HB.znr⟩
theorem XP (cp:Nat) (k:ku) (ao:Option Addr) (tn tc:Nat) (t:List UInt8) (bo:Option Addr) (n cb:Nat) (m:List UInt8) (back:Bool) (w:World) (hk:qu w cp k) (ht:t.length=tn) (ht1:tn≤10000) (htc:tn≤tc) (hlt:zr w ao (t.map B))
  (hn:m.length=n) (h1:k.least≤n) (h31:n≤20000) (hcb:n≤cb) (hl:zr w bo (m.map B)) :
  Calls Tryz.prog 63 #[.pointer (some ⟨cp,0,none⟩),.slice ao tn tc,.slice bo n cb,.bool back] w fun e w'=>∃ v,e=.returned (.tuple #[v,.int .i64 0])∧w'.ownsRow w.heap.size 5 1 v n ((xM k t m back).map B)∧Below w.heap.size w w':=by
 cases back with
 | false=>exact VV cp k ao tn tc t bo n cb m w hk ht ht1 htc hlt hn h1 h31 hcb hl
 | true=>exact za4 cp k ao tn tc t bo n cb m w hk ht ht1 htc hlt hn h1 h31 hcb hl
theorem zne (cp:Nat) (k:ku) (ao:Option Addr) (tn tc:Nat) (t:List UInt8) (bo:Option Addr) (n cb:Nat) (m:List UInt8) (w:World) (hk:qu w cp k) (ht:t.length=tn) (ht1:tn≤10000) (htc:tn≤tc) (hlt:zr w ao (t.map B))
  (hn:m.length=n) (h1:k.least≤n) (h31:n≤20000) (hcb:n≤cb) (hl:zr w bo (m.map B)) :
  Calls Tryz.prog 74 #[.pointer (some ⟨cp,0,none⟩),.slice ao tn tc,.slice bo n cb] w fun e w'=>∃ v,e=.returned (.tuple #[v,.int .i64 0])∧w'.ownsRow w.heap.size 5 1 v n ((xM k t m false).map B)∧Below w.heap.size w w':=by
 have HC:=znq (XP cp k ao tn tc t bo n cb m false w hk ht ht1 htc hlt hn h1 h31 hcb hl)
 clear hk ht hlt hn hl h1
 go_enter Tryz.func74,Tryz.ntmps74
 go_wp2_with fail
 refine HC.znr.mono ?_
 rintro e w3 ⟨v3,rfl,hown,hbel⟩
 have HO:=znq hown
 have HB:=znq hbel
 clear hown hbel
 go_wp2
 go_ret2
 exact ⟨_,rfl,HO.znr,HB.znr⟩
theorem zfk (cp:Nat) (k:ku) (ao:Option Addr) (tn tc:Nat) (bo:Option Addr) (n cb:Nat) (w:World) (hc:qu w cp k) (hn:n < k.least) :
  Calls Tryz.prog 74 #[.pointer (some ⟨cp,0,none⟩),.slice ao tn tc,.slice bo n cb] w fun e w'=>e=.returned (.tuple #[.slice none 0 0,.int .i64 7])∧w=w':=by
 have HC:=znq (Q2 cp k (.slice ao tn tc) bo n cb false w hc hn)
 clear hc hn
 go_enter Tryz.func74,Tryz.ntmps74
 go_wp2_with fail
 refine HC.znr.mono ?_
 rintro e w3 ⟨rfl,rfl⟩
 go_wp2
 go_ret2
 exact ⟨rfl,rfl⟩
theorem znf (cp:Nat) (k:ku) (ao:Option Addr) (tn tc:Nat) (t:List UInt8) (bo:Option Addr) (n cb:Nat) (m:List UInt8) (w:World) (hk:qu w cp k) (ht:t.length=tn) (ht1:tn≤10000) (htc:tn≤tc) (hlt:zr w ao (t.map B))
  (hn:m.length=n) (h1:k.least≤n) (h31:n≤20000) (hcb:n≤cb) (hl:zr w bo (m.map B)) :
  Calls Tryz.prog 26 #[.pointer (some ⟨cp,0,none⟩),.slice ao tn tc,.slice bo n cb] w fun e w'=>∃ v,e=.returned (.tuple #[v,.int .i64 0])∧w'.ownsRow w.heap.size 5 1 v n ((xM k t m true).map B)∧Below w.heap.size w w':=by
 have HC:=znq (XP cp k ao tn tc t bo n cb m true w hk ht ht1 htc hlt hn h1 h31 hcb hl)
 clear hk ht hlt hn hl h1
 go_enter Tryz.func26,Tryz.ntmps26
 go_wp2_with fail
 refine HC.znr.mono ?_
 rintro e w3 ⟨v3,rfl,hown,hbel⟩
 have HO:=znq hown
 have HB:=znq hbel
 clear hown hbel
 go_wp2
 go_ret2
 exact ⟨_,rfl,HO.znr,HB.znr⟩
theorem zfl (cp:Nat) (k:ku) (ao:Option Addr) (tn tc:Nat) (bo:Option Addr) (n cb:Nat) (w:World) (hc:qu w cp k) (hn:n < k.least) :
  Calls Tryz.prog 26 #[.pointer (some ⟨cp,0,none⟩),.slice ao tn tc,.slice bo n cb] w fun e w'=>e=.returned (.tuple #[.slice none 0 0,.int .i64 7])∧w=w':=by
 have HC:=znq (Q2 cp k (.slice ao tn tc) bo n cb true w hc hn)
 clear hc hn
 go_enter Tryz.func26,Tryz.ntmps26
 go_wp2_with fail
 refine HC.znr.mono ?_
 rintro e w3 ⟨rfl,rfl⟩
 go_wp2
 go_ret2
 exact ⟨rfl,rfl⟩
end Go.Proofs.YtjaioajjfiaheaaGreatDoor
namespace Go.Proofs.YtjaioajjfiaheaaGreatDoor
open Go.RowKit Go.Mem Go.Ops Go.Cells Go.Oct Go.Gf Go.Trn Go.Aes Go.Ring Go.Ezk Go.Ezh Go.Ezt Go.Ezc Go.Aez Go.Blake Go.CutP Go.Fl Go.Wid
attribute [local irreducible] zE zN zO zM yu
end Go.Proofs.YtjaioajjfiaheaaGreatDoor
namespace Go.Proofs.YtjaioajjfiaheaaGreatDoor
open Go.RowKit Go.Mem Go.Ops Go.Cells Go.Oct Go.Gf Go.Trn Go.Aes Go.Ring Go.Ezk Go.Ezh Go.Ezt Go.Ezc Go.Aez Go.Blake Go.CutP Go.Fl Go.Adi Go.Hct Go.Wid
attribute [local irreducible] zE zN zO zM yu
end Go.Proofs.YtjaioajjfiaheaaGreatDoor
namespace Go.Mem
open Go.RowKit Go.Cells Go.Ops
theorem zqf {w:World} {base:Nat} {e:TypeId} {ao:Option Addr} {m n c:Nat} {xs:List Value} (h:w.ownsRow base e 1 (.slice ao m c) m xs) (hn:n≤m):w.ownsRow base e 1 (.slice ao n c) n (xs.take n):=by
 rcases h.2 with ⟨hv,h0⟩ | ⟨g,cap,cur,hv,hb,hg,h1,h2,h3,ht⟩
 ·cases hv
  obtain rfl:n=0:=by omega
  exact ⟨by simp,.inl ⟨rfl,rfl⟩⟩
 ·cases hv
  refine ⟨by rw [List.length_take,h.1];omega,.inr ⟨g,c,cur,rfl,hb,hg,by omega,h2,h3,?_⟩⟩
  rw [← ht,List.take_take]
  congr 1
  omega
end Go.Mem
namespace Go.Ezh
open Go.Ops Go.Oct Go.Gf Go.Trn Go.Aes Go.Ring Go.Ezk Go.Ezt
def zny (h:List UInt8) (n i:Nat):List UInt8:=(List.range 16).map fun k=>if 16 - i≤k then ya (at8 h k) (at8 (zz (UInt64.ofNat n)) (15 - k)) else at8 h k
theorem znz (h:List UInt8) (n i:Nat):(zny h n i).length=16:=by simp [zny]
theorem zn7 (h:List UInt8) (n i k:Nat) (hk:k < 16):(zny h n i)[k]? = some (if 16 - i≤k then ya (at8 h k) (at8 (zz (UInt64.ofNat n)) (15 - k)) else at8 h k):=by
 unfold zny
 rw [List.getElem?_map,List.getElem?_range hk]
 rfl
theorem zpc {h:List UInt8} (hl:h.length=16) (n:Nat):zny h n 0=h:=by
 refine Yl (znz _ _ _) hl fun k hk=>?_
 rw [at8_some (zn7 h n 0 k hk),if_neg (by omega)]
theorem zpd (h:List UInt8) (n:Nat):zny h n 8=countedH h n:=by
 unfold zny countedH
 apply List.map_congr_left
 intro k hk
 have:k < 16:=by simpa using hk
 by_cases h8:k < 8
 ·rw [if_neg (by omega),if_pos h8]
 ·rw [if_pos (by omega),if_neg h8]
theorem zpe (h:List UInt8) (n:Nat) {i:Nat} (hi:i < 8):(zny h n i).set (15 - i) (ya (at8 h (15 - i)) (at8 (zz (UInt64.ofNat n)) i))=zny h n (i+1):=by
 apply List.ext_getElem?
 intro k
 by_cases hk:k < 16
 ·rw [List.getElem?_set,znz,zn7 h n i k hk,zn7 h n (i+1) k hk]
  by_cases e:15 - i=k
  ·subst e
   rw [if_pos rfl,if_pos (by omega),if_pos (by omega),show 15 - (15 - i)=i by omega]
  ·rw [if_neg e]
   by_cases h:16 - i≤k
   ·rw [if_pos h,if_pos (by omega)]
   ·rw [if_neg h,if_neg (by omega)]
 ·rw [List.getElem?_eq_none (by rw [List.length_set,znz];omega),List.getElem?_eq_none (by rw [znz];omega)]
theorem zp2 (k:zv) (h:List UInt8) (n:Nat) (f:Nat) {out:List UInt8} (hn:n≤out.length):zn8 k h n f out=out:=by
 cases f with
 | zero=>rfl
 | succ f=>rw [zn8,if_pos hn]
end Go.Ezh
namespace Go.Proofs.YtjaioajjfiaheaaGreatDoor
open Go.RowKit Go.Mem Go.Ops Go.Cells Go.Oct Go.Gf Go.Trn Go.Aes Go.Ring Go.Ezk Go.Ezh Go.Ezt Go.Ezc Go.Aez Go.Blake Go.CutP Go.Fl Go.Adi Go.Hct Go.Wid
attribute [local irreducible] zE zN zO zM yu
theorem zpi (h:List UInt8) (n:Nat) (w:World) (hh:h.length=16) (hn:n≤1000):Calls Tryz.prog 87 #[.agg (h.map B).toArray,.int .i64 n] w fun e w'=>e=.returned (.agg ((countedH h n).map B).toArray)∧Below w.heap.size w w':=by
 have HS:=znq (St.start w)
 have HHM:=znq (show (h.map B).length=16 by rw [List.length_map];exact hh)
 have HH0:=znq (zpc hh n)
 have HPL:=znq (zK (UInt64.ofNat n))
 have HLN:=znq (zo1 (n:=n) (by omega))
 clear hh
 go_enter Tryz.func87,Tryz.ntmps87
 go_wp2_with (refine zh 117 _ (h.map B) _ rfl rfl rfl rfl ?_)
 intro w1 hb hbel;have HS:=znq (HS.znr.push hb hbel);have hlt1:=hb.lt;clear hb hbel
 go_wp2_with (refine ze 117 ((zf 16).map B) _ rfl rfl zj rfl ?_)
 intro w2 hb hbel;have HS:=znq (HS.znr.push hb hbel);have hlt2:=hb.lt;clear hb hbel
 generalize hbb:w.heap.size=bb at *
 generalize w1.heap.size=br at *
 have HBB:=znq hbb
 clear hbb
 go_wp2_with fail
 rw [HLN.znr.1]
 refine (kH (UInt64.ofNat n) _).mono ?_
 rintro e w3 ⟨rfl,hbel3⟩
 have HS:=znq (show St w bb w3 [(br,(zf 16).map B,117),(bb,(zny h n 0).map B,117)] by rw [HH0.znr];exact HS.znr.later hbel3)
 clear hbel3 HLN
 go_wp2
 go_loopw [10] (fun c wr=>∃ i:Nat,i≤8∧c=.int .i64 i∧Hid (St w bb wr [(br,(zf 16).map B,117),(bb,(zny h n i).map B,117)])) (fun c _=>8 - (intOf c).toNat)
 case atStart=>exact ⟨0,by omega,rfl,HS⟩
 case round =>
  clear HS
  obtain ⟨i,hi,rfl,HS⟩:=hrel
  by_cases hlt:i < 8
  ·have hix:=fun w=>qF (P:=Tryz.prog) w 97 5 8 ((zz (UInt64.ofNat n)).map B).toArray .i64 i (B (at8 (zz (UInt64.ofNat n)) i)) Tryz.underlying97 (by kernel_rfl) zl (by simpa using zU (at8_get (b:=zz (UInt64.ofNat n)) (i:=i) (by rw [HPL.znr];exact hlt))) hlt
   obtain ⟨j,hj⟩:∃ j,j=15 - i:=⟨_,rfl⟩
   have e1:(15:Int) - (i:Int)=(j:Int):=by omega
   have hj16:j < 16:=by omega
   have HST:=znq (show (zny h n i).set j (ya (at8 h j) (at8 (zz (UInt64.ofNat n)) i))=zny h n (i+1)∧True from ⟨by rw [hj];exact zpe h n hlt,trivial⟩)
   have hc:=(HS.znr.get 1 rfl).cell j (B (at8 h j)) (zU (by rw [zn7 h n i j hj16,if_neg (by omega)]))
   clear hj
   go_wp2_with (refine (HS.znr.get 1 rfl).wset (v:=B (ya (at8 h j) (at8 (zz (UInt64.ofNat n)) i))) (i:=j) rfl rfl rfl rfl zl rfl rfl (by rw [List.length_map,znz];omega) ?_)
   intro w4 hb4 ho4
   rw [ym,HST.znr.1] at hb4
   have HS:=znq (show St w bb w4 [(br,(zf 16).map B,117),(bb,(zny h n (i+1)).map B,117)] from HS.znr.change 1 hb4 ho4 (by omega) (by simp;omega))
   clear hb4 ho4 hix hc
   go_wp2
   go_roundw
   case rel=>exact ⟨i+1,by omega,by go_num,HS⟩
   case measure=>simp [intOf];omega
  ·obtain rfl:i=8:=by omega
   rw [zpd] at HS
   have HCM:=znq (show ((countedH h n).map B).length=16 by rw [List.length_map];exact zof h n)
   go_wp2_with (first | (refine (HS.znr.get 1 rfl).wload rfl rfl rfl zc HCM.znr ?_) | (refine (HS.znr.get 0 rfl).wstore rfl rfl rfl rfl zc (by rw [List.length_map];exact zd 16) HCM.znr (zg _) ?_))
   intro w6 hb6 ho6
   have hbel6:=zk HS.znr.bel ho6 (by omega)
   go_wp2
   refine hb6.result rfl rfl rfl zc HCM.znr ⟨rfl,?_⟩
   rw [HBB.znr]
   exact hbel6
abbrev zpj (kp bh:Nat) (ao:Option Addr) (N cap n:Nat) (v:Value) (us:Nat→Value):Act:={ tmps:=#[.pointer (some ⟨kp,0,none⟩),.slice ao N cap,.int .i64 n,us 3,us 4,us 5,us 6,us 7,.pointer (some ⟨bh,0,none⟩),v,us 10,us 11,us 12,us 13,us 14,us 15,us 16,us 17,us 18,us 19,us 20,us 21,us 22,us 23,us 24,us 25,us 26,us 27,us 28,us 29,us 30,us 31,us 32,us 33,us 34,us 35,us 36,us 37,us 38,us 39,us 40,us 41,us 42,us 43],defers:=[] }
def zpk (kp:Nat) (ao:Option Addr) (N cap n:Nat) (k:zv) (h r:List UInt8) (w:World) (x:Act) (wr:World):Prop :=
 ∃ (bh bz:Nat) (us:Nat→Value) (va:Option Addr) (m vc c f:Nat) (out:List UInt8),x=zpj kp bh ao N cap n (.slice va m vc) us∧w.heap.size≤bh∧bh < bz∧m=16*c∧m≤n+15∧n < m+f∧m≤vc∧Hid (out.length=m∧zn8 k h n f out=r)∧Hid (wr.ownsRow bz 5 1 (.slice va m vc) m (out.map B))∧Hid (St w w.heap.size wr [(bh,h.map B,117)])∧bz≤wr.heap.size
theorem zpk.intro {kp:Nat} {ao:Option Addr} {N cap n:Nat} {k:zv} {h r:List UInt8} {w:World} {x:Act} {wr:World} (bh bz:Nat) (va:Option Addr) (m vc c f:Nat) (out:List UInt8) (hx:x=zpj kp bh ao N cap n (.slice va m vc) (fun i=>x.tmps.getD i undef)) (h1:w.heap.size≤bh) (h2:bh < bz) (h3:m=16*c) (h4:m≤n+15) (h5:n < m+f) (h6:m≤vc)
  (h7:out.length=m∧zn8 k h n f out=r) (h8:wr.ownsRow bz 5 1 (.slice va m vc) m (out.map B)) (h9:St w w.heap.size wr [(bh,h.map B,117)]) (h10:bz≤wr.heap.size):zpk kp ao N cap n k h r w x wr :=
 ⟨bh,bz,_,va,m,vc,c,f,out,hx,h1,h2,h3,h4,h5,h6,h7,h8,h9,h10⟩
theorem prf_ok (kp q p:Nat) (k:zv) (ao:Option Addr) (N cap n:Nat) (ss:List Str) (w:World) (hk:xH w kp q p k) (hN:ss.length=N) (hN1:N≤500) (hs:xY w ao ss) (hlen:∀ s∈ss,s.bs.length≤10000) (hn:n≤10000) :
  Calls Tryz.prog 59 #[.pointer (some ⟨kp,0,none⟩),.slice ao N cap,.int .i64 n] w fun e w'=>∃ v,e=.returned (.tuple #[v,.int .i64 0])∧w'.ownsRow w.heap.size 5 1 v n ((zog k (rowOf ss) n).map B)∧Below w.heap.size w w':=by
 obtain ⟨i0,hi0,hz0,hz1,hz2⟩:=info_parts yq
 have HI:=znq (And.intro hi0 (And.intro hz0 (And.intro hz1 hz2)))
 have HK:=znq hk
 have HNN:=znq hN
 have HSS:=znq hs
 have HLEN:=znq hlen
 have HS:=znq (St.start w)
 have d1:decide ((n:Int) < 0)=false:=by simp
 have d2:decide ((n:Int) > 65536)=false:=by simp;omega
 obtain ⟨h,hh⟩:∃ h,h=qB k (rowOf ss):=⟨_,rfl⟩
 have HH:=znq (show qB k (rowOf ss)=h∧h.length=16 from ⟨hh.symm,by rw [hh];exact vk _ _⟩)
 have HHM:=znq (show (h.map B).length=16 by rw [List.length_map];exact HH.znr.2)
 obtain ⟨r,hr⟩:∃ r,r=zn8 k h n (n+1) []:=⟨_,rfl⟩
 have HR:=znq (show zog k (rowOf ss) n=r.take n∧zn8 k h n (n+1) []=r from ⟨by unfold zog;rw [HH.znr.1,hr],hr.symm⟩)
 clear hk hN hs hlen hi0 hz0 hz1 hz2 hh hr
 go_enter Tryz.func59,Tryz.ntmps59
 go_wp2_with fail
 refine yd 0 (zpk kp ao N cap n k h r w) (fun x _=>n+16 - X9 (x.tmps.getD 9 undef)) rfl ?_ ?_
 ·simp only [q9]
  go_wp2_with fail
  refine (KM kp q p k ao N cap ss _ HK.znr HNN.znr hN1 HSS.znr HLEN.znr).mono ?_
  rintro e w1 ⟨rfl,hbel⟩
  rw [HH.znr.1]
  have HS:=znq (HS.znr.later hbel)
  have hz1:=hbel.size
  clear hbel
  go_wp2_with (refine ze 117 ((zf 16).map B) _ rfl rfl zj rfl ?_)
  intro w2 hb hbel;have HS:=znq (HS.znr.push hb hbel);have hlt2:=hb.lt;clear hb hbel
  go_wp2_with (refine (HS.znr.get 0 rfl).wstore rfl rfl rfl (cs:=h.map B) rfl zc (by rw [List.length_map];exact zd 16) HHM.znr (zg _) ?_)
  intro w3 hb ho
  have HS:=znq (show St w w.heap.size w3 [(w1.heap.size,h.map B,117)] from HS.znr.change 0 hb ho (by omega) (by simp))
  have hlt3:w1.heap.size < w3.heap.size:=by rw [ho.size];exact hlt2
  clear hb ho
  go_wp2_with (at_make;refine wpList_make_own _ rfl _ _ 22 rfl w3.heap.size 5 i0 (.int .u8 0) 1 Tryz.underlying22 HI.znr.1 HI.znr.2.1 HI.znr.2.2.1 _ _ _ (n+16) rfl rfl ?m1 ?m2 ?m3 (Nat.le_refl _) ?_)
  case m1=>simp
  case m2=>rw [HI.znr.2.2.2];omega
  case m3=>unfold maxLen;omega
  intro w4 hown hgrow
  have HOWN:=znq hown
  have hbel:Below w3.heap.size w3 w4:=(Below.refl w3.heap.size w3).grown hgrow (Nat.le_refl _) (fun k h=>by cases h)
  have HS:=znq (HS.znr.later hbel)
  have hz4:=hbel.size
  clear hown hgrow hbel
  go_wp2
  exact zpk.intro w1.heap.size w3.heap.size _ 0 _ 0 (n+1) [] rfl hz1 hlt3 rfl (by omega) (by omega) (by omega) ⟨rfl,HR.znr.2⟩ HOWN.znr HS.znr hz4
 ·clear HS
  rintro x wr ⟨bh,bz,us,va,m,vc,c,f,out,rfl,hbh,g1,hmc,hmn,hnf,hmv,HOUT,HO,HS,hbz⟩
  by_cases hd:n≤m
  ·have d0:decide ((m:Int)≥(n:Int))=true:=by simp;omega
   have hs:=fun w=>ZN (P:=Tryz.prog) w 22 5 1 Tryz.underlying22 zl va m vc n (by omega)
   have HE:=znq (show out.take n=zog k (rowOf ss) n∧True from ⟨by rw [HR.znr.1,← HOUT.znr.2,zp2 _ _ _ _ (by rw [HOUT.znr.1];exact hd)],trivial⟩)
   have HO:=znq (zqf HO.znr hd)
   go_wp2
   go_ret2
   refine ⟨_,rfl,?_,HS.znr.bel⟩
   rw [← HE.znr.1,List.map_take]
   exact yi HO.znr (by omega)
  ·have d0:decide ((m:Int)≥(n:Int))=false:=by simp;omega
   obtain ⟨f,rfl⟩:∃ g,f=g+1:=⟨f - 1,by omega⟩
   have HMC:=znq (show m=16*c∧True from ⟨hmc,trivial⟩)
   have hq:(m:Int) / 16=(c:Int):=by omega
   have hc:c≤1000:=by omega
   clear hmc
   go_wp2_with (refine (HS.znr.get 0 rfl).wload rfl rfl rfl zc HHM.znr ?_)
   refine (zpi h c _ HH.znr.2 hc).mono ?_
   rintro e w1 ⟨rfl,hbel⟩
   have HCL:=znq (zof h c)
   have HNX:=znq (show zn8 k h n f (out++eTen k 3 (countedH h c))=r∧True from ⟨by
    have h1:=HOUT.znr.2
    rw [zn8,if_neg (by rw [HOUT.znr.1];exact hd),HOUT.znr.1,HMC.znr.1,Nat.mul_div_cancel_left c (by omega)] at h1
    exact h1,trivial⟩)
   generalize countedH h c=x at *
   have HO:=znq (zm HO.znr hbel)
   have HS:=znq (HS.znr.later hbel)
   have hz1:=Nat.le_trans hbz hbel.size
   clear hbel hq
   go_wp2_with fail
   refine (Yk kp q p 3 k x _ (HK.znr.later HS.znr.bel) (by omega) HCL.znr).mono ?_
   rintro e w2 ⟨rfl,hbel⟩
   have HBL:=znq (yM k 3 x)
   have HBM:=znq (show ((eTen k 3 x).map B).length=16 by rw [List.length_map];exact HBL.znr)
   generalize eTen k 3 x=y at *
   have HO:=znq (zm HO.znr hbel)
   have HS:=znq (HS.znr.later hbel)
   have hz2:=Nat.le_trans hz1 hbel.size
   clear hbel
   have hbx:=HS.znr.ne _ (List.mem_of_getElem? (i:=0) rfl)
   simp only at hbx
   go_wp2_with (refine ze 117 ((zf 16).map B) _ rfl rfl zj rfl ?_)
   intro w3 hb hbel
   have HO:=znq (zm HO.znr hbel)
   have HS:=znq (HS.znr.push hb hbel)
   have hz3:=Nat.le_trans hz2 hbel.size
   have hlt3:=hb.lt
   clear hb hbel
   go_wp2_with (refine (HS.znr.get 0 rfl).wstore rfl rfl rfl (cs:=y.map B) rfl zc (by rw [List.length_map];exact zd 16) HBM.znr (zg _) ?_)
   intro w4 hb ho
   have HO:=znq (zu HO.znr (HS.znr.get 0 rfl) (by decide) ho)
   have HS:=znq (HS.znr.change 0 hb ho (by omega) (by simp;omega))
   have hz4:bz≤w4.heap.size:=by rw [ho.size];exact hz3
   have hlt4:w2.heap.size < w4.heap.size:=by rw [ho.size];exact hlt3
   generalize w2.heap.size=by' at *
   clear hb ho
   go_wp2_with (at_builtin;refine yD rfl (.tmp 41) (.tmp 42) 22 rfl bz 5 i0 (.int .u8 0) 1 Tryz.underlying22 HI.znr.1 HI.znr.2.1 HI.znr.2.2.1 HI.znr.2.2.2 rfl _ m (out.map B) rfl HO.znr (some ⟨by',0,none⟩) 16 16 (y.map B) rfl HBM.znr (HS.znr.get 0 rfl).lies (j9 _) (by unfold maxLen;omega) (by omega) hz4 ?_)
   intro v5 w5 hown hg
   have hbel:Below bz w4 w5:=z8 (Below.refl bz w4) HO.znr hg (Nat.le_refl _) hz4
   have HS:=znq (show St w w.heap.size w5 [(bh,h.map B,117)] from (HS.znr.sub (L':=[(bh,h.map B,117)]) (by intro e he;simp at he;subst he;simp)).low hbel (by omega) (by intro e he;simp at he;subst he;exact g1))
   obtain ⟨a5,c5,rfl,hc5,_,_⟩:=zw hown
   have HO:=znq (show w5.ownsRow bz 5 1 (.slice a5 (m+16) c5) (m+16) ((out++y).map B) from by rw [List.map_append];exact hown)
   have HOU:=znq (show (out++y).length=m+16 by rw [List.length_append,HOUT.znr.1,HBL.znr])
   have hz5:=Nat.le_trans hz4 hbel.size
   clear hown hg hbel
   go_wp2
   refine wp_goto ⟨rfl,zpk.intro bh bz a5 (m+16) c5 (c+1) f (out++y) rfl hbh g1 (by have:=HMC.znr.1;omega) (by omega) (by omega) hc5 ⟨HOU.znr,HNX.znr.1⟩ HO.znr HS.znr hz5,?_⟩
   simp [X9];omega
end Go.Proofs.YtjaioajjfiaheaaGreatDoor
namespace Go.Proofs.YtjaioajjfiaheaaGreatDoor
open Go.RowKit Go.Mem Go.Ops Go.Cells Go.Oct Go.Gf Go.Trn Go.Aes Go.Ring Go.Ezk Go.Ezh Go.Ezt Go.Ezc Go.Aez Go.Blake Go.CutP Go.Fl Go.Adi Go.Hct Go.Wid
attribute [local irreducible] zE zN zO zM yu
theorem qu.ez {w:World} {cp:Nat} {k:zv} (h:qu w cp (.aez k)):∃ kp q p,zab w cp kp q p k:=by
 obtain ⟨v,⟨kp,q,p,rfl,hk⟩,hb⟩:=h
 exact ⟨kp,q,p,hk,hb⟩
theorem zqb (cp:Nat) (k:zv) (ao:Option Addr) (N cap n:Nat) (ss:List Str) (w:World) (hk:qu w cp (.aez k)) (hN:ss.length=N) (hN1:N≤500) (hs:xY w ao ss) (hlen:∀ s∈ss,s.bs.length≤10000) (hn:n≤10000) :
  Calls Tryz.prog 23 #[.pointer (some ⟨cp,0,none⟩),.slice ao N cap,.int .i64 n] w fun e w'=>∃ v,e=.returned (.tuple #[v,.int .i64 0])∧w'.ownsRow w.heap.size 5 1 v n ((zog k (rowOf ss) n).map B)∧Below w.heap.size w w':=by
 obtain ⟨kp,q,p,hk⟩:=hk.ez
 have HK:=znq hk
 have HNN:=znq hN
 have HST:=znq hs
 have HLEN:=znq hlen
 have HS:=znq (St.start w)
 clear hk hN hs hlen
 go_enter Tryz.func23,Tryz.ntmps23
 go_wp2_with fail
 refine (zp9 cp kp q p k _ HK.znr).mono ?_
 rintro e w1 ⟨rfl,hbel⟩
 have HS:=znq (HS.znr.later hbel)
 have hz1:=HS.znr.size
 clear hbel
 go_wp2_with (refine ze 93 [.pointer none] _ rfl rfl Yx rfl ?_)
 intro w2 hb hbel;have HS:=znq (HS.znr.push hb hbel);have hlt2:=hb.lt;clear hb hbel
 go_wp2_with (refine (HS.znr.get 0 rfl).wstore rfl rfl rfl (cs:=[.pointer (some ⟨kp,0,none⟩)]) rfl jv rfl rfl (by simp [Value.oneCell']) ?_)
 intro w3 hb3 ho3
 have HS:=znq (HS.znr.change 0 hb3 ho3 (by omega) (by simp))
 clear hb3 ho3
 have hc:=(HS.znr.get 0 rfl).cell 0 _ rfl
 go_wp2_with fail
 refine (prf_ok kp q p k ao N cap n ss _ (HK.znr.later HS.znr.bel).key HNN.znr hN1 (HST.znr.below HS.znr.bel) HLEN.znr hn).mono ?_
 rintro e w4 ⟨v4,rfl,hown4,hbel4⟩
 have HO:=znq (yi hown4 HS.znr.size)
 have HB:=znq (HS.znr.bel.trans (hbel4.mono HS.znr.size))
 clear hown4 hbel4
 go_wp2
 go_ret2
 exact ⟨_,rfl,HO.znr,HB.znr⟩
structure zpl (w:World) (bc br bt cp:Nat) (k:zv) (g N cap t:Nat) (ss:List Str):Prop where
 c:Blk w bc [.pointer (some ⟨cp,0,none⟩)] 28
 r:Blk w br [.slice (some ⟨g,0,none⟩) N cap] 23
 tt:Blk w bt [.int .i64 t] 3
 ciph:qu w cp (.aez k)
 len:ss.length=N
 few:N≤500
 strs:xY w (some ⟨g,0,none⟩) ss
 lens:∀ s∈ss,s.bs.length≤10000
 most:t≤10000
theorem zpl.later {w w':World} {bc br bt cp g N cap t:Nat} {k:zv} {ss:List Str} (h:zpl w bc br bt cp k g N cap t ss) (hb:Below w.heap.size w w'):zpl w' bc br bt cp k g N cap t ss :=
 ⟨h.c.below hb h.c.lt,h.r.below hb h.r.lt,h.tt.below hb h.tt.lt,h.ciph.later hb,h.len,h.few,h.strs.below hb,h.lens,h.most⟩
structure zpf (w:World) (bc br cp:Nat) (k:ku) (ao:Option Addr) (n cap:Nat) (t:List UInt8):Prop where
 c:Blk w bc [.pointer (some ⟨cp,0,none⟩)] 28
 r:Blk w br [.slice ao n cap] 22
 ciph:qu w cp k
 len:t.length=n
 le:n≤cap
 most:n≤10000
 lies:zr w ao (t.map B)
theorem zpf.later {w w':World} {bc br cp n cap:Nat} {k:ku} {ao:Option Addr} {t:List UInt8} (h:zpf w bc br cp k ao n cap t) (hb:Below w.heap.size w w'):zpf w' bc br cp k ao n cap t :=
 ⟨h.c.below hb h.c.lt,h.r.below hb h.r.lt,h.ciph.later hb,h.len,h.le,h.most,h.lies.below hb⟩
def Way (F p1 p2 least:Nat) (E:List UInt8→List UInt8) (w:World):Prop :=
 ∀ (bo:Option Addr) (n cb:Nat) (m:List UInt8),m.length=n→least≤n→n≤20000→n≤cb→zr w bo (m.map B) →
  Calls Tryz.prog F #[.slice bo n cb,.pointer (some ⟨p1,0,none⟩),.pointer (some ⟨p2,0,none⟩)] w fun e w'=>∃ v,e=.returned (.tuple #[v,.int .i64 0])∧w'.ownsRow w.heap.size 5 1 v n ((E m).map B)∧Below w.heap.size w w'
def zpm (F p1 p2 least:Nat) (w:World):Prop :=
 ∀ (bo:Option Addr) (n cb:Nat),n < least→Calls Tryz.prog F #[.slice bo n cb,.pointer (some ⟨p1,0,none⟩),.pointer (some ⟨p2,0,none⟩)] w fun e w'=>e=.returned (.tuple #[.slice none 0 0,.int .i64 7])∧w=w'
theorem zqg {w:World} {bc br bt cp g N cap t:Nat} {k:zv} {ss:List Str} (hc:zpl w bc br bt cp k g N cap t ss):Way 102 bc br 1 (fun m=>rowA k (rowOf ss) m false) w:=by
 intro bo n cb m hn h1 h31 hcb hl
 obtain ⟨kp,q,p,hk⟩:=hc.ciph.ez
 have HC:=znq (zqa cp kp q p k (some ⟨g,0,none⟩) N cap ss bo n cb m false w hk hc.len hc.few hc.strs hc.lens hn h1 h31 hcb hl)
 have hc0:=hc.c.cell 0 _ rfl
 have hc1:=hc.r.cell 0 _ rfl
 clear hk hc hl hn
 go_enter Tryz.func102,Tryz.ntmps102
 go_wp2_with fail
 refine HC.znr.mono ?_
 rintro e w1 ⟨v1,rfl,hown,hbel⟩
 have HO:=znq hown
 have HB:=znq hbel
 clear hown hbel
 go_wp2
 go_ret2
 exact ⟨_,rfl,HO.znr,HB.znr⟩
theorem zqh {w:World} {bc br bt cp g N cap t:Nat} {k:zv} {ss:List Str} (hc:zpl w bc br bt cp k g N cap t ss):Way 103 bc br 1 (fun m=>rowA k (rowOf ss) m true) w:=by
 intro bo n cb m hn h1 h31 hcb hl
 obtain ⟨kp,q,p,hk⟩:=hc.ciph.ez
 have HC:=znq (zqa cp kp q p k (some ⟨g,0,none⟩) N cap ss bo n cb m true w hk hc.len hc.few hc.strs hc.lens hn h1 h31 hcb hl)
 have hc0:=hc.c.cell 0 _ rfl
 have hc1:=hc.r.cell 0 _ rfl
 clear hk hc hl hn
 go_enter Tryz.func103,Tryz.ntmps103
 go_wp2_with fail
 refine HC.znr.mono ?_
 rintro e w1 ⟨v1,rfl,hown,hbel⟩
 have HO:=znq hown
 have HB:=znq hbel
 clear hown hbel
 go_wp2
 go_ret2
 exact ⟨_,rfl,HO.znr,HB.znr⟩
theorem zpn {w:World} {bc br bt cp g N cap t:Nat} {k:zv} {ss:List Str} (hc:zpl w bc br bt cp k g N cap t ss) :
  Calls Tryz.prog 104 #[.pointer (some ⟨bc,0,none⟩),.pointer (some ⟨br,0,none⟩),.pointer (some ⟨bt,0,none⟩)] w fun e w'=>∃ v,e=.returned v∧w'.ownsRow w.heap.size 5 1 v t ((zog k (rowOf ss) t).map B)∧Below w.heap.size w w':=by
 have HC:=znq (zqb cp k (some ⟨g,0,none⟩) N cap t ss w hc.ciph hc.len hc.few hc.strs hc.lens hc.most)
 have hc0:=hc.c.cell 0 _ rfl
 have hc1:=hc.r.cell 0 _ rfl
 have hc2:=hc.tt.cell 0 _ rfl
 clear hc
 go_enter Tryz.func104,Tryz.ntmps104
 go_wp2_with fail
 refine HC.znr.mono ?_
 rintro e w1 ⟨v1,rfl,hown,hbel⟩
 have HO:=znq hown
 have HB:=znq hbel
 clear hown hbel
 go_wp2
 go_ret
 exact ⟨_,rfl,HO.znr,HB.znr⟩
theorem zqi {w:World} {bc br cp n0 cap:Nat} {k:ku} {ao:Option Addr} {t:List UInt8} (hc:zpf w bc br cp k ao n0 cap t):Way 105 bc br k.least (fun m=>xM k t m false) w:=by
 intro bo n cb m hn h1 h31 hcb hl
 have HC:=znq (zne cp k ao n0 cap t bo n cb m w hc.ciph hc.len hc.most hc.le hc.lies hn h1 h31 hcb hl)
 have hc0:=hc.c.cell 0 _ rfl
 have hc1:=hc.r.cell 0 _ rfl
 clear hc hl hn h1
 go_enter Tryz.func105,Tryz.ntmps105
 go_wp2_with fail
 refine HC.znr.mono ?_
 rintro e w1 ⟨v1,rfl,hown,hbel⟩
 have HO:=znq hown
 have HB:=znq hbel
 clear hown hbel
 go_wp2
 go_ret2
 exact ⟨_,rfl,HO.znr,HB.znr⟩
theorem zqj {w:World} {bc br cp n0 cap:Nat} {k:ku} {ao:Option Addr} {t:List UInt8} (hc:zpf w bc br cp k ao n0 cap t):Way 106 bc br k.least (fun m=>xM k t m true) w:=by
 intro bo n cb m hn h1 h31 hcb hl
 have HC:=znq (znf cp k ao n0 cap t bo n cb m w hc.ciph hc.len hc.most hc.le hc.lies hn h1 h31 hcb hl)
 have hc0:=hc.c.cell 0 _ rfl
 have hc1:=hc.r.cell 0 _ rfl
 clear hc hl hn h1
 go_enter Tryz.func106,Tryz.ntmps106
 go_wp2_with fail
 refine HC.znr.mono ?_
 rintro e w1 ⟨v1,rfl,hown,hbel⟩
 have HO:=znq hown
 have HB:=znq hbel
 clear hown hbel
 go_wp2
 go_ret2
 exact ⟨_,rfl,HO.znr,HB.znr⟩
theorem zpo {w:World} {bc br cp n0 cap:Nat} {k:ku} {ao:Option Addr} {t:List UInt8} (hc:zpf w bc br cp k ao n0 cap t):zpm 105 bc br k.least w:=by
 intro bo n cb h
 have HC:=znq (zfk cp k ao n0 cap bo n cb w hc.ciph h)
 have hc0:=hc.c.cell 0 _ rfl
 have hc1:=hc.r.cell 0 _ rfl
 clear hc h
 go_enter Tryz.func105,Tryz.ntmps105
 go_wp2_with fail
 refine HC.znr.mono ?_
 rintro e w1 ⟨rfl,rfl⟩
 go_wp2
 go_ret2
 exact ⟨rfl,rfl⟩
theorem zpp {w:World} {bc br cp n0 cap:Nat} {k:ku} {ao:Option Addr} {t:List UInt8} (hc:zpf w bc br cp k ao n0 cap t):zpm 106 bc br k.least w:=by
 intro bo n cb h
 have HC:=znq (zfl cp k ao n0 cap bo n cb w hc.ciph h)
 have hc0:=hc.c.cell 0 _ rfl
 have hc1:=hc.r.cell 0 _ rfl
 clear hc h
 go_enter Tryz.func106,Tryz.ntmps106
 go_wp2_with fail
 refine HC.znr.mono ?_
 rintro e w1 ⟨rfl,rfl⟩
 go_wp2
 go_ret2
 exact ⟨rfl,rfl⟩
end Go.Proofs.YtjaioajjfiaheaaGreatDoor
namespace Go.Proofs.YtjaioajjfiaheaaGreatDoor
open Go.RowKit Go.Mem Go.Ops Go.Cells Go.Oct Go.Gf Go.Trn Go.Aes Go.Ring Go.Ezk Go.Ezh Go.Ezt Go.Ezc Go.Aez Go.Blake Go.CutP Go.Fl Go.Adi Go.Hct Go.Wid
attribute [local irreducible] zE zN zO zM yu
theorem zpq:(Tryz.prog.info? 22).map (·.zero)=some (some (.slice none 0 0)):=by kernel_rfl
theorem KD:(Tryz.prog.info? 22).map (·.size)=some 1:=by kernel_rfl
def zp3 (bc br:Nat):List Value:=[.func (.func 105) #[] #[.pointer (some ⟨bc,0,none⟩),.pointer (some ⟨br,0,none⟩)],.func (.func 106) #[] #[.pointer (some ⟨bc,0,none⟩),.pointer (some ⟨br,0,none⟩)],.nilFunc]
theorem wh (cp:Nat) (t:Int) (n a:Value) (w:World) (ht:zot t=4) :
  Calls Tryz.prog 82 #[.pointer (some ⟨cp,0,none⟩),.int .i64 t,n,a] w fun e w'=>e=.returned (.tuple #[.agg #[.nilFunc,.nilFunc,.nilFunc],.int .i64 4])∧Below w.heap.size w w':=by
 have HS:=znq (St.start w)
 go_enter Tryz.func82,Tryz.ntmps82
 go_wp2_with (refine zh 28 _ ([.pointer (some ⟨cp,0,none⟩)]) _ rfl rfl rfl rfl ?_)
 intro w1 hb hbel;have HS:=znq (HS.znr.push hb hbel);have hlt1:=hb.lt;clear hb hbel
 go_wp2_with (refine zh 3 _ ([.int .i64 t]) _ rfl rfl rfl rfl ?_)
 intro w2 hb hbel;have HS:=znq (HS.znr.push hb hbel);have hlt2:=hb.lt;clear hb hbel
 go_wp2_with (refine ze 130 ([.nilFunc,.nilFunc,.nilFunc]) _ rfl rfl znw rfl ?_)
 intro w3 hb hbel;have HS:=znq (HS.znr.push hb hbel);have hlt3:=hb.lt;clear hb hbel
 have hc1:=(HS.znr.get 2 rfl).cell 0 _ rfl
 have hc2:=(HS.znr.get 1 rfl).cell 0 _ rfl
 go_wp2_with fail
 refine (wF t n a _ ht).mono ?_
 rintro e w4 ⟨rfl,rfl⟩
 have hz3:=HS.znr.size
 go_wp2_with (refine ze 23 [.slice none 0 0] _ rfl rfl zoj rfl ?_)
 intro w5 hb hbel;have HS:=znq (HS.znr.push hb hbel);have hlt5:=hb.lt;clear hb hbel
 go_wp2_with (refine (HS.znr.get 0 rfl).wset1 0 (.slice none 0 0) rfl rfl rfl rfl zok rfl rfl (by simp) ?_)
 intro w6 hb6 ho6
 have HS:=znq (HS.znr.change 0 hb6 ho6 (by omega) (by simp;omega))
 clear hb6 ho6
 go_wp2_with (refine (HS.znr.get 1 rfl).wstore rfl rfl rfl (cs:=[.nilFunc,.nilFunc,.nilFunc]) rfl k7 rfl rfl (by simp [Value.oneCell']) ?_)
 intro w7 hb ho
 have HB:=znq (zk HS.znr.bel ho (by omega))
 go_wp2
 exact hb.result2 rfl rfl rfl rfl k7 rfl ⟨rfl,HB.znr⟩
theorem zor (cp:Nat) (k:zv) (t:Nat) (no:Option Addr) (nn nc:Nat) (nonce:List UInt8) (ado:Option Addr) (N adc:Nat) (ss:List Str) (w:World) (hc:qu w cp (.aez k)) (ht:t≤16) (hn:nonce.length=nn) (hnb:nn≤5000) (hl:zr w no (nonce.map B)) (hN:ss.length=N) (hNb:N≤20) (hs:xY w ado ss) (hsb:∀ s∈ss,s.bs.length≤10000) :
  Calls Tryz.prog 82 #[.pointer (some ⟨cp,0,none⟩),.int .i64 t,.slice no nn nc,.slice ado N adc] w fun e w'=>∃ bc br bt g cap sts,e=.returned (.tuple #[.agg (zou bc br bt).toArray,.int .i64 0])∧zpl w' bc br bt cp k g (2+N) cap t sts∧rowOf sts=zns t nonce (rowOf ss)∧Below w.heap.size w w':=by
 have HC:=znq hc
 have HN:=znq hn
 have HL:=znq hl
 have HNN:=znq hN
 have HSS:=znq hs
 have HSB:=znq hsb
 have HS:=znq (St.start w)
 clear hc hn hl hN hs hsb
 go_enter Tryz.func82,Tryz.ntmps82
 go_wp2_with (refine zh 28 _ ([.pointer (some ⟨cp,0,none⟩)]) _ rfl rfl rfl rfl ?_)
 intro w1 hb hbel;have HS:=znq (HS.znr.push hb hbel);have hlt1:=hb.lt;clear hb hbel
 go_wp2_with (refine zh 3 _ ([.int .i64 t]) _ rfl rfl rfl rfl ?_)
 intro w2 hb hbel;have HS:=znq (HS.znr.push hb hbel);have hlt2:=hb.lt;clear hb hbel
 go_wp2_with (refine ze 130 ([.nilFunc,.nilFunc,.nilFunc]) _ rfl rfl znw rfl ?_)
 intro w3 hb hbel;have HS:=znq (HS.znr.push hb hbel);have hlt3:=hb.lt;clear hb hbel
 generalize hbb:w.heap.size=bb at *
 generalize w1.heap.size=bw1 at *
 generalize w2.heap.size=bw2 at *
 have HBB:=znq hbb
 clear hbb
 have hc1:=(HS.znr.get 2 rfl).cell 0 _ rfl
 have hc2:=(HS.znr.get 1 rfl).cell 0 _ rfl
 go_wp2_with fail
 refine (zoh t no nn nc nonce ado N adc ss _ ht HN.znr (by omega) (HL.znr.below (HS.znr.old HBB.znr)) HNN.znr (by omega) (HSS.znr.below (HS.znr.old HBB.znr)) HSB.znr).mono ?_
 rintro e w4 ⟨g,cap,sts,rfl,hl2,hro,hss,hbel⟩
 have HS:=znq (HS.znr.later hbel)
 have HST:=znq hss
 have HRO:=znq hro
 have HLE:=znq (show sts.length=2+N∧True from ⟨hl2,trivial⟩)
 have HLS:=znq (show ∀ s∈sts,s.bs.length≤10000 from by
  intro s hs
  have:s.bs∈rowOf sts:=List.mem_map.2 ⟨s,hs,rfl⟩
  rw [hro] at this
  unfold zns at this
  rcases List.mem_cons.1 this with h | h
  ·rw [h];simp [zf]
  ·rcases List.mem_cons.1 h with h | h
   ·rw [h,HN.znr];omega
   ·obtain ⟨s',hs',e⟩:=List.mem_map.1 h
    rw [← e];exact HSB.znr s' hs')
 clear hl2 hro hss hbel hc1 hc2
 have hz4:=HS.znr.size
 have hz5:bw2 < w4.heap.size:=(HS.znr.get 0 rfl).lt
 go_wp2_with (refine ze 23 [.slice none 0 0] _ rfl rfl zoj rfl ?_)
 intro w5 hb hbel;have HS:=znq (HS.znr.push hb hbel);have HB5:=znq hbel;have hlt5:=hb.lt;clear hb hbel
 go_wp2_with (refine (HS.znr.get 0 rfl).wset1 0 (.slice (some ⟨g,0,none⟩) (2+N) cap) rfl rfl rfl rfl zok rfl rfl (by simp) ?_)
 intro w6 hb6 ho6
 have HST:=znq (HST.znr.below (zk HB5.znr ho6 (Nat.le_refl _)))
 have HS:=znq (show St w bb w6 [(w4.heap.size,[.slice (some ⟨g,0,none⟩) (2+N) cap],23),(bw2,[.nilFunc,.nilFunc,.nilFunc],130),(bw1,[.int .i64 t],3),(bb,[.pointer (some ⟨cp,0,none⟩)],28)] from HS.znr.change 0 hb6 ho6 (by omega) (by simp;omega))
 clear hb6 ho6 HB5
 generalize w4.heap.size=bw4 at *
 have hc1:=(HS.znr.get 3 rfl).cell 0 _ rfl
 have HA:Calls Tryz.prog 101 #[.pointer (some ⟨cp,0,none⟩)] w6 fun e w'=>e=.returned (.int .i64 3)∧w6=w':=znd cp (.aez k) _ (HC.znr.later (HS.znr.old HBB.znr))
 have HA:=znq HA
 go_wp2_with fail
 refine HA.znr.mono ?_
 rintro e w7 ⟨rfl,rfl⟩
 clear HA
 go_wp2_with (refine (HS.znr.get 1 rfl).wstore rfl rfl rfl (cs:=zou bb bw4 bw1) rfl k7 rfl rfl (zom _ _ _) ?_)
 intro w8 hb8 ho8
 have HB:=znq (zk HS.znr.bel ho8 (by omega))
 have HST:=znq (HST.znr.only (HS.znr.get 1 rfl) (by simp [Str.val]) (by simp) ho8)
 have HBN:=znq (show zpl w8 bb bw4 bw1 cp k g (2+N) cap t sts from ⟨(HS.znr.get 3 rfl).only ho8 (by omega),(HS.znr.get 0 rfl).only ho8 (by omega),(HS.znr.get 2 rfl).only ho8 (by omega),HC.znr.later (by rw [HBB.znr];exact HB.znr),HLE.znr.1,by omega,HST.znr,HLS.znr,by omega⟩)
 go_wp2
 exact hb8.result2 rfl rfl rfl rfl k7 rfl ⟨bb,bw4,bw1,g,cap,sts,rfl,HBN.znr,HRO.znr,by rw [HBB.znr];exact HB.znr⟩
theorem zo2 (cp:Nat) (k:ku) (t:Nat) (no:Option Addr) (nn nc:Nat) (nonce:List UInt8) (ado:Option Addr) (N adc:Nat) (ss:List Str) (w:World) (hc:qu w cp k) (h3:k.alg≠3) (ht:t≤16) (hn:nonce.length=nn) (hnb:nn≤5000) (hnc:nn≤nc) (hl:zr w no (nonce.map B)) (hN:ss.length=N) (hNb:N≤20) (hs:xY w ado ss) (hsb:∀ s∈ss,s.bs.length≤10000) (hcl:(zoi t nonce (rowOf ss)).length≤10000) :
  Calls Tryz.prog 82 #[.pointer (some ⟨cp,0,none⟩),.int .i64 t,.slice no nn nc,.slice ado N adc] w fun e w'=>∃ bc br ao n cap,e=.returned (.tuple #[.agg (zp3 bc br).toArray,.int .i64 0])∧zpf w' bc br cp k ao n cap (zoi t nonce (rowOf ss))∧Below w.heap.size w w':=by
 have HC:=znq hc
 have HN:=znq hn
 have HL:=znq hl
 have HNN:=znq hN
 have HSS:=znq hs
 have HSB:=znq hsb
 have HS:=znq (St.start w)
 have d3:((k.alg:Int)==3)=false:=by simp;omega
 obtain ⟨tw,htw⟩:∃ tw,tw=zoi t nonce (rowOf ss):=⟨_,rfl⟩
 have HTW:=znq (show zoi t nonce (rowOf ss)=tw∧True from ⟨htw.symm,trivial⟩)
 rw [← htw] at hcl ⊢
 clear hc hn hl hN hs hsb h3 htw
 go_enter Tryz.func82,Tryz.ntmps82
 go_wp2_with (refine zh 28 _ ([.pointer (some ⟨cp,0,none⟩)]) _ rfl rfl rfl rfl ?_)
 intro w1 hb hbel;have HS:=znq (HS.znr.push hb hbel);have hlt1:=hb.lt;clear hb hbel
 go_wp2_with (refine zh 3 _ ([.int .i64 t]) _ rfl rfl rfl rfl ?_)
 intro w2 hb hbel;have HS:=znq (HS.znr.push hb hbel);have hlt2:=hb.lt;clear hb hbel
 go_wp2_with (refine ze 130 ([.nilFunc,.nilFunc,.nilFunc]) _ rfl rfl znw rfl ?_)
 intro w3 hb hbel;have HS:=znq (HS.znr.push hb hbel);have hlt3:=hb.lt;clear hb hbel
 generalize hbb:w.heap.size=bb at *
 generalize w1.heap.size=bw1 at *
 generalize w2.heap.size=bw2 at *
 have HBB:=znq hbb
 clear hbb
 have hc1:=(HS.znr.get 2 rfl).cell 0 _ rfl
 have hc2:=(HS.znr.get 1 rfl).cell 0 _ rfl
 go_wp2_with fail
 refine (zoh t no nn nc nonce ado N adc ss _ ht HN.znr (by omega) (HL.znr.below (HS.znr.old HBB.znr)) HNN.znr (by omega) (HSS.znr.below (HS.znr.old HBB.znr)) HSB.znr).mono ?_
 rintro e w4 ⟨g,cap,sts,rfl,_,_,_,hbel⟩
 have HS:=znq (HS.znr.later hbel)
 clear hbel hc1 hc2
 have hz4:=HS.znr.size
 have hz5:bw2 < w4.heap.size:=(HS.znr.get 0 rfl).lt
 go_wp2_with (refine ze 23 [.slice none 0 0] _ rfl rfl zoj rfl ?_)
 intro w5 hb hbel;have HS:=znq (HS.znr.push hb hbel);have hlt5:=hb.lt;clear hb hbel
 go_wp2_with (refine (HS.znr.get 0 rfl).wset1 0 (.slice (some ⟨g,0,none⟩) (2+N) cap) rfl rfl rfl rfl zok rfl rfl (by simp) ?_)
 intro w6 hb6 ho6
 have HS:=znq (show St w bb w6 [(w4.heap.size,[.slice (some ⟨g,0,none⟩) (2+N) cap],23),(bw2,[.nilFunc,.nilFunc,.nilFunc],130),(bw1,[.int .i64 t],3),(bb,[.pointer (some ⟨cp,0,none⟩)],28)] from HS.znr.change 0 hb6 ho6 (by omega) (by simp;omega))
 clear hb6 ho6
 generalize w4.heap.size=bw4 at *
 have hc1:=(HS.znr.get 3 rfl).cell 0 _ rfl
 have hc2:=(HS.znr.get 2 rfl).cell 0 _ rfl
 go_wp2_with fail
 refine (znd cp k _ (HC.znr.later (HS.znr.old HBB.znr))).mono ?_
 rintro e w7 ⟨rfl,rfl⟩
 go_wp2_with fail
 refine (zp1 t no nn nc nonce ado N adc ss _ ht HN.znr hnb hnc (HL.znr.below (HS.znr.old HBB.znr)) HNN.znr hNb (HSS.znr.below (HS.znr.old HBB.znr)) HSB.znr).mono ?_
 rw [HTW.znr.1]
 rintro e w8 ⟨a8,c8,rfl,hc8,hl8,hbel⟩
 have HL8:=znq hl8
 have HS:=znq (HS.znr.later hbel)
 clear hl8 hbel hc1 hc2
 have hz8:=HS.znr.size
 have hlt8:=HS.znr.ne _ (List.mem_of_getElem? (i:=0) rfl)
 simp only at hlt8
 go_wp2_with (refine ze 22 [.slice none 0 0] _ rfl rfl zpq rfl ?_)
 intro w9 hb hbel;have HS:=znq (HS.znr.push hb hbel);have HB9:=znq hbel;have hlt9:=hb.lt;clear hb hbel
 go_wp2_with (refine (HS.znr.get 0 rfl).wset1 0 (.slice a8 tw.length c8) rfl rfl rfl rfl KD rfl rfl (by simp) ?_)
 intro w10 hb ho
 have HL8:=znq (HL8.znr.below (zk HB9.znr ho (Nat.le_refl _)))
 have HS:=znq (show St w bb w10 [(w8.heap.size,[.slice a8 tw.length c8],22),(bw4,[.slice (some ⟨g,0,none⟩) (2+N) cap],23),(bw2,[.nilFunc,.nilFunc,.nilFunc],130),(bw1,[.int .i64 t],3),(bb,[.pointer (some ⟨cp,0,none⟩)],28)] from HS.znr.change 0 hb ho (by omega) (by simp;omega))
 clear hb ho HB9
 generalize w8.heap.size=bw8 at *
 go_wp2_with (refine (HS.znr.get 2 rfl).wstore rfl rfl rfl (cs:=zp3 bb bw8) rfl k7 rfl rfl (by simp [zp3,Value.oneCell']) ?_)
 intro w11 hb ho
 have HB:=znq (zk HS.znr.bel ho (by omega))
 have HBN:=znq (show zpf w11 bb bw8 cp k a8 tw.length c8 tw from ⟨(HS.znr.get 4 rfl).only ho (by omega),(HS.znr.get 0 rfl).only ho (by omega),HC.znr.later (by rw [HBB.znr];exact HB.znr),rfl,hc8,hcl,HL8.znr.only (HS.znr.get 2 rfl) (by intro x hx hin;obtain ⟨y,_,rfl⟩:=List.mem_map.1 hx;simp at hin) ho⟩)
 go_wp2
 exact hb.result2 rfl rfl rfl rfl k7 rfl ⟨bb,bw8,a8,tw.length,c8,rfl,HBN.znr,by rw [HBB.znr];exact HB.znr⟩
end Go.Proofs.YtjaioajjfiaheaaGreatDoor

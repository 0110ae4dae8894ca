/-
  Texts of this claim, one behind the other.
-/
import Derived.Test.YtjaioajjfiaheaaGreatDoorR1
import Derived.Test.YtjaioajjfiaheaaGreatDoorR26
import Derived.Lib.Hide
set_option linter.unusedVariables false
set_option linter.unusedSimpArgs false
set_option maxHeartbeats 16000000
set_option maxRecDepth 100000
namespace Go.Proofs.YtjaioajjfiaheaaGreatDoor
open Go.RowKit Go.Mem Go.Ops Go.Cells Go.Oct Go.Gf Go.Trn Go.Aes Go.Ring Go.Ezk Go.Ezh Go.Ezt Go.Ezc Go.Aez Go.Blake Go.CutP Go.Fl Go.Adi Go.Hct Go.Wid
theorem Ku (alg:Int) (a1:Option Addr) (n1 c1:Nat) (a2:Option Addr) (n2 c2:Nat) (t:Int) (a4:Option Addr) (N c4:Nat) (a5:Option Addr) (n5 c5:Nat) (cp:Nat) (mv:Value) (w:World) (ht:zot t=4) :
  Calls Tryz.prog 18 #[.agg (znt alg a1 n1 c1 a2 n2 c2 t a4 N c4 a5 n5 c5).toArray,.pointer (some ⟨cp,0,none⟩),mv] w fun e w'=>e=.returned (.tuple #[.slice none 0 0,.int .i64 4])∧Below w.heap.size w w' :=
 zo5 alg a1 n1 c1 a2 n2 c2 t a4 N c4 a5 n5 c5 _ _ w _ fun w' hb=>(zch _ _ _ _ t 4 w' (by decide) (wh cp t _ _ w' ht)).mono fun e w'' ⟨he,hbel⟩=>⟨⟨_,4,he⟩,he,hb.trans (hbel.mono hb.size)⟩
theorem xU (alg:Int) (a1:Option Addr) (n1 c1:Nat) (a2:Option Addr) (n2 c2:Nat) (t:Int) (a4:Option Addr) (N c4:Nat) (a5:Option Addr) (n5 c5:Nat) (cp:Nat) (mv:Value) (w:World) (ht:zot t=4) :
  Calls Tryz.prog 19 #[.agg (znt alg a1 n1 c1 a2 n2 c2 t a4 N c4 a5 n5 c5).toArray,.pointer (some ⟨cp,0,none⟩),mv] w fun e w'=>e=.returned (.tuple #[.slice none 0 0,.int .i64 4])∧Below w.heap.size w w' :=
 zp5 alg a1 n1 c1 a2 n2 c2 t a4 N c4 a5 n5 c5 _ _ w _ fun w' hb=>(zdv _ _ _ _ t 4 w' (by decide) (wh cp t _ _ w' ht)).mono fun e w'' ⟨he,hbel⟩=>⟨⟨_,4,he⟩,he,hb.trans (hbel.mono hb.size)⟩
theorem zdz {k:ku} (h3:k.alg≠3) {t:Nat} (nonce:List UInt8) (ad:List (List UInt8)) {b:List UInt8} (ht:t≤b.length) (hb:k.least≤b.length) :
  zoa k t nonce ad b=if (xM k (zoi t nonce ad) b true).drop (b.length - t)=zf t then some ((xM k (zoi t nonce ad) b true).take (b.length - t)) else none:=by
 cases k with
 | aez p=>exact absurd rfl h3
 | adi k=>show zoq _ _ t b=_;unfold zoq;rw [if_neg (by omega),if_neg (by omega)]
 | hct k=>show zoq _ _ t b=_;unfold zoq;rw [if_neg (by omega),if_neg (by omega)]
theorem q8 {k:ku} (h3:k.alg≠3) {t:Nat} (nonce:List UInt8) (ad:List (List UInt8)) {b:List UInt8} (hb:b.length < k.least):zoa k t nonce ad b=none:=by
 cases k with
 | aez p=>exact absurd rfl h3
 | adi k=>show zoq _ _ t b=_;unfold zoq;rw [if_pos hb];split <;> rfl
 | hct k=>show zoq _ _ t b=_;unfold zoq;rw [if_pos hb];split <;> rfl
theorem zd0 {p:zv} {t:Nat} (nonce:List UInt8) (ad:List (List UInt8)) {b:List UInt8} (ht:t < b.length) :
  zoa (.aez p) t nonce ad b=if (rowA p (zns t nonce ad) b true).drop (b.length - t)=zf t then some ((rowA p (zns t nonce ad) b true).take (b.length - t)) else none:=by
 show zn9 p _ t b=_
 unfold zn9
 rw [if_neg (by omega),if_neg (by omega)]
end Go.Proofs.YtjaioajjfiaheaaGreatDoor

/- Laws. -/
import Derived.Test.YtkochfajaaiekaaGreatDoorY23
set_option linter.all false
set_option maxHeartbeats 16000000
set_option maxRecDepth 100000
open List renaming eq_of_mem_replicate->zbJ,mem_append->zaC,mem_append_left->zaP,replicate->zah
namespace Go.Proofs.YtkochfajaaiekaaGreatDoor
open Go.Proofs.Tryz
section
open RowKit
attribute [local irreducible] zA zG zH zE zR
def xi.lt{F O:List Nat}{w:World}{bp:Nat}{s:yN}(h:xi F O w bp s):∀i∈F,i<w.heap.size:=by obtain⟨_,_,_,_,_,_,_,aO⟩:=h;exact aO.tabs.lt
def xi.sub{F O:List Nat}{w:World}{bp:Nat}{s:yN}(h:xi F O w bp s):∀i∈O,i∈F:=by obtain⟨_,_,_,_,_,_,_,aO⟩:=h;exact aO.sub
def xi.zei{F O:List Nat}{w:World}{bp:Nat}{s:yN}(h:xi F O w bp s):s.zeq:=by obtain⟨_,_,_,_,_,_,_,aO⟩:=h;exact aO.zei
def xi.below{F O:List Nat}{w w':World}{bp:Nat}{s:yN}(h:xi F O w bp s)(hb:Below w.heap.size w w'):xi F O w' bp s:=by obtain⟨_,_,_,_,_,_,_,aO⟩:=h;exact⟨_,_,_,_,_,_,_,aO.below hb⟩
def xi.ext{F O D:List Nat}{w w':World}{bp:Nat}{s:yN}(h:xi F O w bp s)(he:Ext D w w')(hD:∀i∈D,i∈F)(hO:∀i∈O,i∉D):xi F O w' bp s:=by obtain⟨_,_,_,_,_,_,_,aO⟩:=h;exact⟨_,_,_,_,_,_,_,aO.ext he hD hO⟩
def xi.grow{F F' O D:List Nat}{w w':World}{bp:Nat}{s:yN}(h:xi F O w bp s)(he:Ext D w w')(hD:∀d∈D,d∈F)(hO:∀i∈O,i∉D)(hF:∀i∈F',i∈F\/(w.heap.size<=i/\i<w'.heap.size))(hF2:∀i∈F,i∈F'):xi F' O w' bp s:=by obtain⟨_,_,_,_,_,_,_,aO⟩:=h;exact⟨_,_,_,_,_,_,_,aO.grow he hD hO hF hF2⟩
def xi.news{F O A:List Nat}{w w':World}{bp:Nat}{s:yN}(h:xi F O w bp s)(hb:Below w.heap.size w w')(hA:∀a∈A,w.heap.size<=a/\a<w'.heap.size):xi (A++F) O w' bp s:=by obtain⟨_,_,_,_,_,_,_,aO⟩:=h;exact⟨_,_,_,_,_,_,_,aO.news hb hA⟩
structure Duo(F Oa Ob:List Nat)(w:World)(ba bb:Nat)(sa sb:yN):Prop where
 a:xi F Oa w ba sa
 b:xi F Ob w bb sb
 apart:∀i∈Oa,i∉Ob
section
variable{F Oa Ob N:List Nat}{w w':World}{ba bb:Nat}{sa sb sc:yN}
def Duo.below(h:Duo F Oa Ob w ba bb sa sb)(hb:Below w.heap.size w w'):Duo F Oa Ob w' ba bb sa sb:=⟨h.a.below hb,h.b.below hb,h.apart⟩
def Duo.swap(h:Duo F Oa Ob w ba bb sa sb):Duo F Ob Oa w bb ba sb sa:=⟨h.b,h.a,λi hi hj=>h.apart i hj hi⟩
def Duo.did(h:Duo F Oa Ob w ba bb sa sb)(hn:xi (N++F) (N++Oa) w' ba sc)(he:Ext Oa w w')(hN:∀i∈N,w.heap.size<=i):Duo (N++F) (N++Oa) Ob w' ba bb sc sb:=by
 refine⟨hn,h.b.grow he h.a.sub (λi hi hj=>h.apart i hj hi) (λi hi=>?_) (λi hi=>List.mem_append_right _ hi),λi hi hj=>?_⟩
 ·rcases zaC.1 hi with hi|hi
  ·exact .inr ⟨hN i hi,hn.lt i (zaP _ hi)⟩
  ·exact .inl hi
 ·rcases zaC.1 hi with hi|hi
  ·have ag:=hN i hi;have ag:=h.b.lt i (h.b.sub i hj);omega
  ·exact h.apart i hi hj
end
def Hc(F0:List Nat)(q p:Nat)(w:World)(ht:Tab w q p)(hF:∀i∈F0,i<w.heap.size/\i≠q/\i≠p):Ca_ 18 #[pa_ q] w λe w'=>∃bp hp,e=.returned (pa_ bp)/\yr ([bp,hp]++F0) [bp,hp] w' bp zee hp q p (zah 8 WI) (.pointer none) (.pointer none) (.pointer none)/\(w.heap.size<=bp/\w.heap.size<=hp)/\Below w.heap.size w w':=by
 have A3:=zc ht;have I3:=zc hF;clear ht hF;go_enter func18,ntmps18;go_wp2_with fail;refine(ry q p _ A3).mono ?_;rintro e A4⟨hp,rfl,oI,Tw,Eu⟩;have PW:=zc oI;have uX:=zc Eu;clear oI Eu;go_wp2_with (refine zh 62 _ (qd hp q (.pointer none) (.pointer none) (.pointer none)) _ rfl rfl rfl rfl ?_);intro Ev aF Et;have aT:=uX.size;have ah:=A3.tab.lt;have ah:=A3.boxes.lt;have NK:=ha_ (yr ([A4.heap.size,hp]++F0) [A4.heap.size,hp] Ev A4.heap.size zee hp q p (zah 8 WI) (.pointer none) (.pointer none) (.pointer none)) (by
  have ag:=PW.blk.below Et PW.blk.lt;have aR:=aF.lt;have Ec:=ag.lt;have aU:=Et.size;refine⟨λi hi=>zaP _ hi,⟨ab,ab⟩,⟨sx (PW.tab.below Et (Nat.le_refl _)) ?_ ?_,?_,?_,?_⟩,aF,ag,rfl,λt ht=>?_,λt ht _=>?_,rfl,rfl,rfl,rfl,uS⟩
  ·exact ahR
  ·exact ahS
  ·exact ahR
  ·exact ahS
  ·intro i hi;rcases zaC.1 hi with hi|hi
   ·exact ai6
   ·have:=(I3 i hi).1;omega
  ·obtain rfl:=zbJ ht;exact λw' _=>mq w'
  ·obtain rfl:=zbJ ht;rfl)
 exact amO
def Dl(F0:List Nat)(w:World)(hg:zeT w)(hF:∀i∈F0,i<w.heap.size):Ca_ 10 #[] w λe w'=>∃bp hp,e=.returned (pa_ bp)/\xi ([bp,hp]++F0) [bp,hp] w' bp zee/\(w.heap.size<=bp/\w.heap.size<=hp)/\Below w.heap.size w w':=by have M8:=zc hg;have I3:=zc hF;clear hg hF;go_enter func10,ntmps10;go_wp2_with fail;refine(U1 _).mono ?_;rintro e A4⟨ox,rfl,hp,aF,sy⟩;have uX:=zc aF;have A0:=zc sy;have eE:=hp;have aT:=sy.size;clear hp;go_wp2_with fail;refine(Fm ox a0s _ j4 uX (M8.below A0)).mono ?_;rintro e A4⟨ey,rfl,eA,aF,Et⟩;have A3:=ha_ (Tab A4 ey ox) ⟨uX.below Et uX.lt,aF⟩;have A0:=zc (A0.trans (Et.mono A0.size));have PU:=eA;have aT:=Et.size;clear Et eA;go_wp2_with fail;refine(Hc F0 ey ox _ A3 (λi hi=>by have:=I3.o i hi;omega)).mono ?_;rintro e A4⟨bp,hp,rfl,hi,Tw,Ey⟩;have aT:=A0.size;have NK:=zc hi;have A0:=zc (A0.trans (Ey.mono A0.size));clear hi Ey;go_wp2;go_ret;exact⟨bp,hp,rfl,⟨_,_,_,_,_,_,_,NK⟩,⟨ae,ae⟩,A0⟩


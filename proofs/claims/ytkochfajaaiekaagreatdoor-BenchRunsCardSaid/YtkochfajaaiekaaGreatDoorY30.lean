/- Laws. -/
import Derived.Test.YtkochfajaaiekaaGreatDoorY24
import Derived.Test.YtkochfajaaiekaaGreatDoorY27
import Derived.Test.YtkochfajaaiekaaGreatDoorY29
set_option linter.all false
set_option maxHeartbeats 16000000
set_option maxRecDepth 100000
open List renaming mem_append->zaC,mem_cons->zau,mem_cons_of_mem->zaN
namespace Go.Proofs.YtkochfajaaiekaaGreatDoor
open Go.Proofs.Tryz
section
open RowKit
attribute [local irreducible] zA zG zH zE zR
def UH:QR 0 zee:=λv hv=>by cases hv
def QR.zjT{m:Nat}{s:yN}(h:QR m s)(hm:m<=1000000):XM s:=λv hv=>by have:=h v hv;omega
def Ds{F:List Nat}{w w1:World}{e:TypeId}{k n zfb:Nat}{va:OA}{vs:Lb_}(hown:w1.ownsRow w.heap.size e k (.slice va n zfb) n vs)(hF:∀i∈F,i<w.heap.size):∀a,va=some a->a.block∉F:=by
 intro a Au aO;subst Au;rcases hown.2 with⟨h9,_⟩|⟨g,cap,cur,h9,_⟩
 ·cases h9
 ·cases h9;have ag:=(hown.lt g rfl).1;have ag:=hF g aO;omega
def Dt{w0 w w1:World}{F O:List Nat}{bp n m:Nat}{s:yN}{xs:List Opr}{va:OA}{zfb:Nat}(hb:xi F O w bp s)(hm:QR m s)(hmn:m+n<=1000)(hB:Below w0.heap.size w0 w)(hF:∀i∈F,w0.heap.size<=i)(hn:xs.length=n)(hx:∀x∈xs,x.In w0)(hs:∀x∈xs,x.c.key.length<=1000/\x.c.b.length<=1000/\x.c.name.length<=1000)(hg:yi w0)(hown:w1.ownsRow w.heap.size 38 7 (.slice va n zfb) n (fa xs))(hbel:Below w.heap.size w w1):Ca_ 11 #[pa_ bp,.slice va n zfb] w1 λe w'=>∃vr F' O' ts,e=.returned vr/\Jh F O w1 va xs F' O' w' n vr ts/\xi F' O' w' bp (doL s (vG xs)).1/\ts.map Tol.t=(doL s (vG xs)).2/\Below w0.heap.size w0 w'/\∀i∈F',w0.heap.size<=i:=by
 have aT:=hB.size;have EG:=Ds hown hb.lt;have abG:∀x∈xs,sA F x:=λx h=>gD (hx x h) hF;have aG:=hB.trans (hbel.mono aT);have aen:wN w1 va xs:=mI hown (λx h=>(hx x h).below aG);have oG:xA F w1 yi:=(hg.below aG).keep (λhi=>by have:=hF _ hi;have:=hg.first.lt;omega) (λhi=>by have:=hF _ hi;have:=hg.rows.lt;omega);refine(Bt (hb.below hbel) m hm va n zfb xs hn hmn (cY aen (λ_=>EG) abG) (λx h=>⟨WZ (aen.each x h) (abG x h),hs x h⟩) oG).mono ?_;rintro e w'⟨vr,F',O',ts,rfl,a5X,aF,a6l⟩;rw[hn] at a5X;have aT:=aG.size;refine⟨vr,F',O',ts,rfl,a5X,aF,a6l,Ext.bel aG a5X.ext aT (λi hi=>hF i (hb.sub i hi)),λi hi=>?_⟩;rcases a5X.zlQ i hi with h|h
 ·exact hF i h
 ·omega
def UI{w0 w:World}{F:List Nat}{x:Opr}(hx:x.In w0)(hB:Below w0.heap.size w0 w)(hF:∀i∈F,w0.heap.size<=i)(hs:x.c.key.length<=1000/\x.c.b.length<=1000/\x.c.name.length<=1000):yT F w x:=⟨WZ (hx.below hB) (gD hx hF),hs⟩
structure One(w0:World)(bp m:Nat)(F O:List Nat)(s:yN)(K:List (Nat×Lb_×TypeId))(Z:World->Prop)(w:World):Prop where
 ben:xi F O w bp s
 few:QR m s
 bel:Below w0.heap.size w0 w
 new:∀i∈F,w0.heap.size<=i
 vars:∀e∈K,Blk w e.1 e.2.1 e.2.2/\e.1∈F/\e.1∉O
 keep:xA F w Z
section
variable{w0 w w':World}{bp m:Nat}{F O:List Nat}{s:yN}{K:List (Nat×List Value×TypeId)}{Z:World->Prop}
def One.mono(h:One w0 bp m F O s K Z w){m':Nat}(hm:m<=m'):One w0 bp m' F O s K Z w:=⟨h.ben,h.few.mono hm,h.bel,h.new,h.vars,h.keep⟩
def One.later(h:One w0 bp m F O s K Z w)(hb:Below w.heap.size w w'):One w0 bp m F O s K Z w' :=
 ⟨h.ben.below hb,h.few,h.bel.trans (hb.mono h.bel.size),h.new,λe he=>⟨(h.vars e he).1.below hb (h.vars e he).1.lt,(h.vars e he).2⟩,h.keep.wider hb (λi hi=>.inl hi)⟩
def One.push{b:Nat}{vs:Lb_}{ty:TypeId}(h:One w0 bp m F O s K Z w)(hb:Blk w' b vs ty)(hbel:Below w.heap.size w w')(hge:w.heap.size<=b):One w0 bp m (b::F) O s ((b,vs,ty)::K) Z w':=by
 have aT:=h.bel.size;refine⟨h.ben.news (A:=[b]) hbel (λa ha=>by simp at ha;subst ha;exact⟨hge,hb.lt⟩),h.few,h.bel.trans (hbel.mono aT),λi hi=>?_,λe he=>?_,h.keep.wider hbel (λi hi=>?_)⟩
 ·rcases zau.1 hi with rfl|hi
  ·omega
  ·exact h.new i hi
 ·rcases zau.1 he with rfl|he
  ·exact⟨hb,ab,λhi=>by have:=h.ben.lt _ (h.ben.sub _ hi);simp only at this;omega⟩
  ·have aL:=h.vars e he;exact⟨aL.1.below hbel aL.1.lt,zaN _ aL.2.1,aL.2.2⟩
 ·rcases zau.1 hi with rfl|hi
  ·exact .inr hge
  ·exact .inl hi
def One.set{b:Nat}{vs vs':Lb_}{ty:TypeId}(h:One w0 bp m F O s ((b,vs,ty)::K) Z w)(hb:Blk w' b vs' ty)(ho:Only b w w')(hne:∀e∈K,e.1≠b):One w0 bp m F O s ((b,vs',ty)::K) Z w':=by
 have aL:=(h.vars (b,vs,ty) ab).2;have aJ:Ext [b] w w':=Ext.zd1 ho ab;refine⟨h.ben.ext aJ (λi hi=>by simp at hi;rw[hi];exact aL.1) (λi hi hj=>by simp at hj;rw[hj] at hi;exact aL.2 hi),h.few,h.bel.trans ⟨ho.os,ho.tape,ho.output,Nat.le_of_eq ho.size.symm,λk hk=>ho.block k (λe=>by have:=h.new _ aL.1;simp only at this;omega)⟩,h.new,λe hx=>?_,wk h.keep aJ (λd hd=>by simp at hd;rw[hd];exact aL.1) (λi hi=>.inl hi)⟩;rcases zau.1 hx with rfl|hx
 ·exact⟨hb,aL⟩
 ·have ag:=h.vars e (zaN _ hx);exact⟨ag.1.ext aJ (by simpa using hne e hx),ag.2⟩
def One.get(h:One w0 bp m F O s K Z w)(k:Nat){e:Nat×Lb_×TypeId}(hk:K[k]? = some e):Blk w e.1 e.2.1 e.2.2:=(h.vars e (List.mem_of_getElem? hk)).1
def One.swap{a b:Nat×Lb_×TypeId}(h:One w0 bp m F O s (a::b::K) Z w):One w0 bp m F O s (b::a::K) Z w:=⟨h.ben,h.few,h.bel,h.new,λe he=>h.vars e (by simp at he |-;rcases he with h|h|h;exact .inr (.inl h);exact .inl h;exact .inr (.inr h)),h.keep⟩
def One.and{Z2:World->Prop}(h:One w0 bp m F O s K Z w)(h2:xA F w Z2):One w0 bp m F O s K (λw=>Z w/\Z2 w) w:=⟨h.ben,h.few,h.bel,h.new,h.vars,λw' hu=>⟨h.keep w' hu,h2 w' hu⟩⟩
def One.did{c:Cmd}{e:Ending}(h:One w0 bp m F O s K Z w)(hd:yh F O w bp (do1 s c) e w'):∃ao cap F' O',e=.returned (.agg #[.int .i64 (do1 s c).2.1,.int .i64 (do1 s c).2.2.1,.slice ao (do1 s c).2.2.2.length cap])/\One w0 bp (m+1) F' O' (do1 s c).1 K Z w'/\xA F' w' (Tol.mk (do1 s c).2 ao cap).In:=by
 obtain⟨ao,cap,adH,rfl,abB,aF,aJ,acg⟩:=hd;have aT:=h.bel.size;refine⟨ao,cap,adH++F,adH++O,rfl,⟨aF,Br h.ben.zei h.few c,Ext.bel h.bel aJ aT (λi hi=>h.new i (h.ben.sub i hi)),λi hi=>?_,λx hx=>?_,wk h.keep aJ h.ben.sub (λi hi=>?_)⟩,yq.keep abB (λi hi=>(zaC.1 hi).imp id (λh9=>h.ben.lt i h9))⟩
 ·rcases zaC.1 hi with hi|hi
  ·have:=acg i hi;omega
  ·exact h.new i hi
 ·have aL:=h.vars x hx;refine⟨aL.1.ext aJ aL.2.2,List.mem_append_right _ aL.2.1,λhi=>?_⟩;rcases zaC.1 hi with hi|hi
  ·have ag:=acg _ hi;have ag:=aL.1.lt;omega
  ·exact aL.2.2 hi
 ·rcases zaC.1 hi with hi|hi
  ·exact .inr (acg i hi)
  ·exact .inl hi
def He{w1:World}{n:Nat}{xs:List Opr}{va:OA}{zfb:Nat}(h:One w0 bp m F O s [] (λ_=>True) w)(hmn:m+n<=1000)(hn:xs.length=n)(hx:∀x∈xs,x.In w0)(hs:∀x∈xs,x.c.key.length<=1000/\x.c.b.length<=1000/\x.c.name.length<=1000)(hg:yi w0)(hown:w1.ownsRow w.heap.size 38 7 (.slice va n zfb) n (fa xs))(hbel:Below w.heap.size w w1):Ca_ 11 #[pa_ bp,.slice va n zfb] w1 λe w'=>∃vr F' O',e=.returned vr/\One w0 bp (m+n) F' O' (doL s (vG xs)).1 [] (λ_=>True) w':=by refine(Dt h.ben h.few hmn h.bel h.new hn hx hs hg hown hbel).mono ?_;rintro e w'⟨vr,F',O',a6k,rfl,a5X,aF,a6l,aG,I1⟩;refine⟨vr,F',O',rfl,aF,?_,aG,I1,λe he=>(by cases he),λ_ _=>trivial⟩;have ag:=mF (vG xs) m s h.ben.zei h.few;rw[List.length_map,hn] at ag;exact ag
def One.zjT(h:One w0 bp m F O s K Z w)(hm:m<=1000000):XM s:=QR.zjT h.few hm


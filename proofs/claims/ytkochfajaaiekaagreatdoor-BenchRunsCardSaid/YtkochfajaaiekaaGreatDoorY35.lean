/- Laws. -/
import Derived.Test.YtkochfajaaiekaaGreatDoorY30
set_option linter.all false
set_option maxHeartbeats 16000000
set_option maxRecDepth 100000
open List renaming drop_eq_nil_of_le->zak,flatten_cons->za4,mem_append_left->zaP,mem_cons_of_mem->zaN,mem_of_mem_drop->zcZ,mem_of_mem_take->zc0
open Nat renaming add_mul->zbc,add_sub_cancel->zcE,one_mul->zbZ
namespace Go.Proofs.YtkochfajaaiekaaGreatDoor
open Go.Proofs.Tryz
open Go.Proofs.Tryz renaming prog->pgm
def Nm:∀(l:List Cmd)(s:yN) {j:Nat} {c:Cmd},l[j]? = some c->(doL s l).2[j]? = some (do1 (doL s (l.take j)).1 c).2
 | [],s,j,c,h=>by simp at h
 | x::r,s,0,c,h=>by
  simp at h;subst h;rfl
 | x::r,s,j+1,c,h=>Nm r (do1 s x).1 cw
open RowKit
def MV(n:Nat):∀(ks:List (Lb_))(lo:Nat),(∀k∈ks,k.length=n)->(ks.drop lo).flatten=ks.flatten.drop (lo*n)
 | [],lo,_=>by simp
 | x::r,0,_=>by simp
 | x::r,lo+1,h=>by
  have hx:=h x ab;rw[List.drop_succ_cons,MV n r lo (λk hk=>h k (zaN _ hk)),za4,List.drop_append,hx,show x.drop ((lo+1)*n)=[] from zak (by rw[hx,zbc];omega),List.nil_append,zbc,zbZ,zcE]
def MW(n:Nat):∀(ks:List (Lb_))(m:Nat),(∀k∈ks,k.length=n)->(ks.take m).flatten=ks.flatten.take (m*n)
 | [],m,_=>by simp
 | x::r,0,_=>by simp
 | x::r,m+1,h=>by
  rw[List.take_succ_cons,za4,MW n r m (λk hk=>h k (zaN _ hk)),za4,List.take_append,h x ab,show x.take ((m+1)*n)=x from List.take_of_length_le (by rw[h x (by simp),zbc];omega),zbc,zbZ,zcE]
def a03.cut{n:Nat}{w:World}{ao:OA}{ks:List (Lb_)}(h:a03 n w ao ks){cap:Nat}(hc:ks.length<=cap)(lo m:Nat):a03 n w (Go.Proofs.YtkochfajaaiekaaGreatDoor.Qw ao cap lo n) ((ks.drop lo).take m):=by
 have ah:∀k∈ks.drop lo,k.length=n:=λk hk=>h.each k (zcZ hk);refine⟨λk hk=>ah k (zc0 hk),?_⟩;rw[MW n _ m ah,MV n _ lo h.each];unfold Go.Proofs.YtkochfajaaiekaaGreatDoor.Qw;by_cases ai:cap=lo
 ·rw[if_pos ai,show ks.flatten.drop (lo*n)=[] from zak (by rw[JH n ks h.each];exact Nat.mul_le_mul_right n (by omega))];simp only[List.take_nil];exact zr.nil _ _
 ·rw[if_neg ai];exact(h.lies.drop (lo*n)).take (m*n)
def wN.cut{w:World}{ao:OA}{xs:List Opr}(h:wN w ao xs){cap:Nat}(hc:xs.length<=cap)(lo m:Nat):wN w (Go.Proofs.YtkochfajaaiekaaGreatDoor.Qw ao cap lo 7) ((xs.drop lo).take m) :=
 ⟨by have h9:=h.rows.cut (cap:=cap) (by rw[List.length_map];exact hc) lo m;rwa [<-List.map_drop,<-List.map_take] at h9,λx hx=>h.each x (zcZ (zc0 hx))⟩
def MJ:(pgm.info? 40).map (·.size)=some 7:=e0
def Nu{P:Program}(w:World)(t e:TypeId)(size:Nat)(ht:P.underlying t=some (.slice e))(hs:(P.info? e).map (·.size)=some size)(ao:OA)(len cap hi:Nat)(h2:hi<=cap):(Instr.slice t (.slice ao len cap) none (some (.int .i64 hi)) none).run P w=.ok (.slice (Qw ao cap 0 size) hi cap) w:=by
 cases hq:P.info? e with
 | none=>rw[hq] at hs;cases hs
 | some x =>
  have aH:x.size=size:=c9;simp[Instr.slice,Instr.sliceBounds,Instr.sliceBound,run_underlying ht,sizeOf,typeInfo,hq,aH,asIntOf,h2,Qw]
def M9{P:Program}(w:World)(t e:TypeId)(size:Nat)(ht:P.underlying t=some (.slice e))(hs:(P.info? e).map (·.size)=some size)(ao:OA)(len cap lo:Nat)(h1:lo<=len)(h2:len<=cap):(Instr.slice t (.slice ao len cap) (some (.int .i64 lo)) none none).run P w=.ok (.slice (Qw ao cap lo size) (len-lo) (cap-lo)) w:=by
 cases hq:P.info? e with
 | none=>rw[hq] at hs;cases hs
 | some x =>
  exact arI
def MX{P:Program}{w:World}{o:Oper}{a:Act}{K:Act->World->Prop}{Q:Exit->Act->World->Prop}(s x:Operand)(t:TypeId)(ho:o.op=.call { callee:=.builtin .append,args:=#[s,x],argTypes:=#[t,t] })(base:Nat)(e:TypeId)(i:TypeInfo)(z:Value)(size bytes:Nat)(ht:P.underlying t=some (.slice e))(hi:P.info? e=some i)(hz:i.zero=some z)(hsize:i.size=size)(hby:i.bytes=bytes)(hzs:z.cells.size=size)(hsz:0<size)(v:Value)(n:Nat)(xs:Lb_)(hs:a.eval s=v)(hown:w.ownsRow base e size v n xs)(ao:OA)(m c:Nat)(news:Lb_)(hx:a.eval x=.slice ao m c)(hl:news.length=m*size)(hlies:zr w ao news)(h1:∀u∈news,u.oneCell'=true)(h63:n+m<=maxLen)(hbytes:(n+m)*bytes<=140737488355328)(hbase:base<=w.heap.size)(h:∀v' w',w'.ownsRow base e size v' (n+m) (xs++news)->w.grownBy w' v.ownBlock->(∀g,v'.ownBlock=some g->(v.ownBlock=some g\/g=w.heap.size)/\g<w'.heap.size)->K (a.put o.dst v') w'):o.wp P a w K Q:=by
 by_cases eh:m=0
 ·subst eh;obtain rfl:news=[]:=List.eq_nil_of_length_eq_zero (by rw[hl,Nat.zero_mul]);have aP:=Vs (P:=P) base t o.type e i size ht hi v n xs hown ao c;unfold Oper.wp;simp only[execOp,ho,resolve,invoke,builtin,Sem.run_bind,Sem.run_pure,Result.andThen_ok,List.map_toArray,List.map_cons,List.map_nil,hs,hx,aP];exact h v w (by simpa using hown) (World.grownBy.refl _ _) (λg hg=>⟨.inl hg,(hown.lt g hg).2⟩)
 ·have aX:news≠[]:=by
   rintro rfl;have:0<m*size:=Nat.mul_pos ae hsz;simp at hl;omega
  obtain⟨ax,ay,rfl,_,az⟩:=hlies.at aX;refine wp_append_lies w s x t ho base e i z size bytes ht hi hz hsize hby hzs hsz v n xs hs hown ⟨ax,ay,none⟩ m c news hx hl hlies.news h1 ae h63 hbytes hbase _ rfl λg cap w' h2 h3 h4 h5=>h _ w' h2 h3 (λg' hg'=>?_);cases hg';exact⟨h4,h5⟩
structure ME(base:Nat)(F O:List Nat)(w:World)(n:Nat)(v:Value)(ts:List Tol):Prop where
 own:w.ownsRow base 35 3 v n (sr ts)
 blk:∀g,v.ownBlock=some g->g∈F/\g∉O
 outs:∀t∈ts,xA F w t.In
def ME.ext{base n:Nat}{F F' O O' D:List Nat}{w w':World}{v:Value}{ts:List Tol}(h:ME base F O w n v ts)(he:Ext D w w')(hDF:∀d∈D,d∈F)(hD:∀g,v.ownBlock=some g->g∉D)(hF:∀i∈F',i∈F\/w.heap.size<=i)(hF2:∀i∈F,i∈F')(hO:∀i∈O',i∈O\/w.heap.size<=i):ME base F' O' w' n v ts:=by
 refine⟨Mc h.own λg hg=>he.block g (h.own.lt g hg).2 (hD g hg),λg hg=>⟨hF2 _ (h.blk g hg).1,λhi=>?_⟩,λt ht=>wk (h.outs t ht) he hDF hF⟩;rcases hO g hi with h1|h1
 ·exact(h.blk g hg).2 h1
 ·have:=(h.own.lt g hg).2;omega
def ME.later{base n:Nat}{F O:List Nat}{w w':World}{v:Value}{ts:List Tol}(h:ME base F O w n v ts)(hb:Below w.heap.size w w'):ME base F O w' n v ts :=
 h.ext (D:=[]) (Ext.of_below hb) (λd hd=>by cases hd) (λ_ _ hd=>by cases hd) (λi hi=>.inl hi) (λi hi=>hi) (λi hi=>.inl hi)
structure MD(w0:World)(F Oa Ob Oc:List Nat)(b1 b2 b3:Nat)(sa sb sc:yN)(w:World):Prop where
 a:xi F Oa w b1 sa
 b:xi F Ob w b2 sb
 c:xi F Oc w b3 sc
 ab:∀i∈Oa,i∉Ob
 bc:∀i∈Ob,i∉Oc
 ca:∀i∈Oc,i∉Oa
 bel:Below w0.heap.size w0 w
 new:∀i∈F,w0.heap.size<=i
section
variable{w0 w w':World}{F F' Oa Oa' Ob Oc:List Nat}{b1 b2 b3:Nat}{sa sa' sb sc:yN}
def MD.rot(h:MD w0 F Oa Ob Oc b1 b2 b3 sa sb sc w):MD w0 F Ob Oc Oa b2 b3 b1 sb sc sa w:=⟨h.b,h.c,h.a,h.bc,h.ca,h.ab,h.bel,h.new⟩
def MD.later(h:MD w0 F Oa Ob Oc b1 b2 b3 sa sb sc w)(hb:Below w.heap.size w w'):MD w0 F Oa Ob Oc b1 b2 b3 sa sb sc w':=⟨h.a.below hb,h.b.below hb,h.c.below hb,h.ab,h.bc,h.ca,h.bel.trans (hb.mono h.bel.size),h.new⟩
def MD.did(h:MD w0 F Oa Ob Oc b1 b2 b3 sa sb sc w)(hn:xi F' Oa' w' b1 sa')(he:Ext Oa w w')(hF:∀i∈F',i∈F\/w.heap.size<=i)(hF2:∀i∈F,i∈F')(hO:∀i∈Oa',i∈Oa\/w.heap.size<=i):MD w0 F' Oa' Ob Oc b1 b2 b3 sa' sb sc w':=by
 have I1:∀i∈F',i∈F\/(w.heap.size<=i/\i<w'.heap.size):=λi hi=>(hF i hi).imp id (λh9=>⟨h9,hn.lt i hi⟩);have aT:=h.bel.size;refine⟨hn,h.b.grow he h.a.sub (λi hi hj=>h.ab i hj hi) I1 hF2,h.c.grow he h.a.sub (λi hi hj=>h.ca i hi hj) I1 hF2,λi hi hj=>?_,h.bc,λi hi hj=>?_,Ext.bel h.bel he aT (λi hi=>h.new i (h.a.sub i hi)),λi hi=>?_⟩
 ·rcases hO i hi with h1|h1
  ·exact h.ab i h1 hj
  ·have:=h.b.lt i (h.b.sub i hj);omega
 ·rcases hO i hj with h1|h1
  ·exact h.ca i hi h1
  ·have:=h.c.lt i (h.c.sub i hi);omega
 ·rcases hF i hi with h1|h1
  ·exact h.new i h1
  ·omega
def MD.apart{D:List Nat}(h:MD w0 F Oa Ob Oc b1 b2 b3 sa sb sc w)(he:Ext D w w')(hD:∀d∈D,d∈F/\d∉Oa/\d∉Ob/\d∉Oc)(hF:∀i∈F',i∈F\/(w.heap.size<=i/\i<w'.heap.size))(hF2:∀i∈F,i∈F'):MD w0 F' Oa Ob Oc b1 b2 b3 sa sb sc w':=by
 have aT:=h.bel.size;refine⟨h.a.grow he (λd hd=>(hD d hd).1) (λi hi hj=>(hD i hj).2.1 hi) hF hF2,h.b.grow he (λd hd=>(hD d hd).1) (λi hi hj=>(hD i hj).2.2.1 hi) hF hF2,h.c.grow he (λd hd=>(hD d hd).1) (λi hi hj=>(hD i hj).2.2.2 hi) hF hF2,h.ab,h.bc,h.ca,Ext.bel h.bel he aT (λi hi=>h.new i (hD i hi).1),λi hi=>?_⟩;rcases hF i hi with h1|h1
 ·exact h.new i h1
 ·omega
end
variable{L:List Nat}{w w':World}
def MD.make{w0 wa wb wc:World}{b1 h1 b2 h2 b3 h3:Nat}{s1 s2 s3:yN}(k1:xi [b1,h1] [b1,h1] wa b1 s1)(g1:w0.heap.size<=b1/\w0.heap.size<=h1)(ba:Below w0.heap.size w0 wa)(k2:xi ([b2,h2]++[b1,h1]) [b2,h2] wb b2 s2)(g2:wa.heap.size<=b2/\wa.heap.size<=h2)(bb:Below wa.heap.size wa wb)(k3:xi ([b3,h3]++([b2,h2]++[b1,h1])) [b3,h3] wc b3 s3)(g3:wb.heap.size<=b3/\wb.heap.size<=h3)(bc:Below wb.heap.size wb wc):MD w0 ([b3,h3]++([b2,h2]++[b1,h1])) [b1,h1] [b2,h2] [b3,h3] b1 b2 b3 s1 s2 s3 wc:=by
 have ep:=ba.size;have a8Q:=bb.size;have Mv:=k1.lt b1 (by simp);have Mv:=k1.lt h1 (by simp);have Mv:=k2.lt b2 (by simp);have Mv:=k2.lt h2 (by simp);refine⟨(k1.news bb (A:=[b2,h2]) (λa h=>⟨Aw,k2.lt a (zaP _ h)⟩)).news bc (A:=[b3,h3]) (λa h=>⟨Aw,k3.lt a (zaP _ h)⟩),k2.news bc (A:=[b3,h3]) (λa h=>⟨Aw,k3.lt a (zaP _ h)⟩),k3,λi hi hj=>?_,λi hi hj=>?_,λi hi hj=>?_,ba.trans ((bb.trans (bc.mono a8Q)).mono ep),λi hi=>?_⟩
 ·simp at hi hj;omega
 ·simp at hi hj;omega
 ·simp at hi hj;omega
 ·simp at hi;omega
def Ms(L:List Nat)(w w':World):Prop:=∀i∈L,w'.heap[i]? = w.heap[i]?
def Ms.refl(L:List Nat)(w:World):Ms L w w:=λ_ _=>rfl
def Ms.trans{u v:World}(h:Ms L u v)(k:Ms L v w):Ms L u w:=λi hi=>(k i hi).trans (h i hi)
instance (L:List Nat)(w:World):Nonempty (zO (Ms L) w):=⟨⟨w,Ms.refl L w⟩⟩
def Ms.of_below(h:Below w.heap.size w w')(hL:∀i∈L,i<w.heap.size):Ms L w w':=λi hi=>h.block i (hL i hi)
def Ms.zmc{D:List Nat}(h:Ext D w w')(hL:∀i∈L,i<w.heap.size/\i∉D):Ms L w w':=λi hi=>h.block i (hL i hi).1 (hL i hi).2


/- Laws. -/
import Derived.Test.YtkochfajaaiekaaGreatDoorY18
import Derived.Test.YtkochfajaaiekaaGreatDoorY17
import Derived.Test.YtkochfajaaiekaaGreatDoorY19
set_option linter.all false
set_option maxHeartbeats 16000000
set_option maxRecDepth 100000
open Int renaming toNat_natCast->zbL
open List renaming cons_append->zbq,mem_append->zaC,mem_append_left->zaP,mem_append_right->zaE,mem_cons->zau,nil_append->zaB
open Nat renaming le_of_eq->zdi,le_refl->zab,le_trans->zat,lt_of_lt_of_le->za1
open UInt8 renaming ofNat->zaq
namespace Go.Proofs.YtkochfajaaiekaaGreatDoor
open Go.Proofs.Tryz
open Go.Proofs.Tryz renaming prog->pgm
open ChangeShapes WideShapes RowKit Deep WideElems Maps Joins
section
variable{H:Type}{enc:TypeId×Value->H}{P:Program}{w:World}{base:Nat}{spare:Nat->Bool}{held:Bool}
end
structure rr where
 kind:Int
 n:Int
 ao:OA
 cap:Nat
 bs:La_
 by':UInt8
def rr.vals(x:rr):Lb_:=[.int .i64 x.kind,.int .i64 x.n,.slice x.ao x.bs.length x.cap,B x.by']
structure rr.In(w:World)(x:rr):Prop where
 kind:a05 x.kind
 n:a05 x.n
 lies:zr w x.ao (x.bs.map B)
 cap:x.bs.length<=x.cap/\x.cap<=maxLen
structure a0o(w:World)(ao:OA)(xs:List rr):Prop where
 rows:a03 4 w ao (xs.map rr.vals)
 each:∀x∈xs,x.In w
def a0o.at{w:World}{ao:OA}{xs:List rr}(h:a0o w ao xs){i:Nat}{x:rr}(hi:xs[i]? = some x):x.In w/\∃b off,ao=some ⟨b,off,none⟩/\b<w.heap.size/\w.rangeAt b (off+i*4) x.vals :=
 ⟨h.each x (List.mem_of_getElem? hi),h.rows.range ae Ax⟩
section
attribute [local irreducible] zA zG zH zE zR
def vI(F:List Nat)(q p vp sp:Nat)(w:World)(v:Vol):Prop:=∃np xp,yp 102 F w q vp sp v (yQ v) np xp/\VN F w q p
def vI.zei{F:List Nat}{q p vp sp:Nat}{w:World}{v:Vol}(h:vI F q p vp sp w v):v.zeq:=by obtain⟨aaj,aak,h,_⟩:=h;exact h.zei
def vI.zjr{F F':List Nat}{q p vp sp:Nat}{w w':World}{v:Vol}(h:vI F q p vp sp w v)(hb:Below w.heap.size w w')(hF:∀i∈F',i∈F\/(w.heap.size<=i/\i<w'.heap.size))(hin:vp∈F'/\sp∈F')(hq:q<w.heap.size/\p<w.heap.size):vI F' q p vp sp w' v:=by obtain⟨aaj,aak,h,aW⟩:=h;have I1:∀i∈F',i∈F\/w.heap.size<=i:=λi hi=>(hF i hi).imp id And.left;exact⟨aaj,aak,h.wider hb I1 hin,aW.tab.wider hb I1,λhi=>(hF q hi).elim aW.q (λh=>absurd h.1 ae),λhi=>(hF p hi).elim aW.p (λh=>absurd h.1 ae),λi hi=>(hF i hi).elim (λh=>za1 (aW.lt i h) hb.size) And.right⟩
def vI.only{F:List Nat}{q p vp sp b:Nat}{w w':World}{v:Vol}(h:vI F q p vp sp w v)(ho:Only b w w')(hb:b∈F)(h1:b≠vp)(h2:b≠sp):vI F q p vp sp w' v:=by obtain⟨aaj,aak,h,aW⟩:=h;exact⟨aaj,aak,h.free (zJ.zd1 ho) hb (λe=>h1 e.symm) (λe=>h2 e.symm),aW.at (Up.zd1 ho (λe=>e hb))⟩
def vI.narrow{F F':List Nat}{q p vp sp:Nat}{w:World}{v:Vol}(h:vI F' q p vp sp w v)(hF:∀i∈F,i∈F')(hin:vp∈F/\sp∈F):vI F q p vp sp w v:=by obtain⟨aaj,aak,h,aW⟩:=h;have aQ:∀X,xA F' w X->xA F w X:=λX k w' hu=>k w' ⟨hu.size,λi hi hl=>hu.block i (λh=>hi (hF i h)) hl⟩;exact⟨aaj,aak,⟨h.zei,h.ne,hin,h.cells,h.store,aQ _ h.now,h.next.imp aQ⟩,⟨aQ _ aW.tab,λhi=>aW.q (hF _ hi),λhi=>aW.p (hF _ hi),λi hi=>aW.lt i (hF i hi)⟩⟩
def Got.slice{base n:Nat}{w:World}{ao:OA}{c:Nat}{xs:La_}(h:Got base w (.slice ao n c) n xs):n<=c/\zr w ao (xs.map B):=by obtain⟨ie,oF,eC,ai,ag,aM,ij⟩:=h;cases ai;exact⟨ag,Gw ij⟩
def LR{F:List Nat}{q p vp sp:Nat}{w:World}{v:Vol}(ka:OA)(kn kc:Nat)(key:La_)(h:vI F q p vp sp w v)(hkn:key.length=kn)(hkc:kn<=kc)(hkl:zr w ka (key.map B))(hg:yi w):Ca_ 37 #[pa_ vp,.slice ka kn kc] w λe w'=>e=.returned (.int .i64 (v.start key).2)/\vI F q p vp sp w' (v.start key).1/\Chg vp sp w w':=by obtain⟨aaj,aak,h,aW⟩:=h;have NP:=h.inF;refine(gk ka kn kc key h aW hkn hkc hkl hg).mono ?_;rintro e w'⟨aJ,⟨aak,aL⟩,az⟩;exact ahP
def zlC{F:List Nat}{q p vp sp:Nat}{w:World}{v:Vol}(ka:OA)(kn kc:Nat)(key:La_)(h:vI F q p vp sp w v)(hkn:key.length=kn)(hkc:kn<=kc)(hkl:zr w ka (key.map B))(hg:yi w):Ca_ 39 #[pa_ vp,.slice ka kn kc] w λe w'=>e=.returned (.int .i64 (v.all key).2)/\vI F q p vp sp w' (v.all key).1/\Chg vp sp w w':=by obtain⟨aaj,aak,h,aW⟩:=h;have NP:=h.inF;refine(LQ ka kn kc key h aW hkn hkc hkl hg).mono ?_;rintro e w'⟨aJ,⟨aaj,aak,aL⟩,az⟩;exact ahP
def zjs{F:List Nat}{q p vp sp:Nat}{w:World}{v:Vol}(k:yo)(h:vI F q p vp sp w v)(hx:v.next=some k):Ca_ 38 #[pa_ vp] w λe w'=>e=.returned (.tuple #[.int .i64 ((v.zdO-v.moved-1:Nat):Int),.int .i64 0])/\vI F q p vp sp w' (v.step k)/\Chg vp sp w w':=by obtain⟨aaj,aak,h,aW⟩:=h;have NP:=h.inF;refine(cH k h hx).mono ?_;rintro e w'⟨aJ,⟨aaj,aak,aL⟩,az⟩;exact ahP
def LS{F:List Nat}{q p vp sp:Nat}{w:World}{v:Vol}(h:vI F q p vp sp w v)(hx:v.next=none):C_e 38 #[pa_ vp] w (.tuple #[.int .i64 0,.int .i64 12]):=by obtain⟨aaj,aak,h,aW⟩:=h;exact GC h hx
def zjt{F:List Nat}{q p vp sp:Nat}{w:World}{v:Vol}(k:Int)(x:UInt8)(h:vI F q p vp sp w v):Ca_ 36 #[pa_ vp,.int .i64 k,B x] w λe w'=>e=.returned (.int .i64 (v.harm k x).2)/\vI F q p vp sp w' (v.harm k x).1/\Chg vp sp w w':=by obtain⟨aaj,aak,h,aW⟩:=h;have NP:=h.inF;refine(GB k x h).mono ?_;rintro e w'⟨aJ,aL,az⟩;exact ahP
structure Ext(D:List Nat)(w w':World):Prop where
 os:w'.os=w.os
 tape:w'.tape=w.tape
 output:w'.output=w.output
 size:w.heap.size<=w'.heap.size
 block:∀k,k<w.heap.size->k∉D->w'.heap[k]? = w.heap[k]?
def Ext.refl(D:List Nat)(w:World):Ext D w w:=⟨rfl,rfl,rfl,zab _,λ_ _ _=>rfl⟩
def Ext.of_below{D:List Nat}{w w':World}(h:Below w.heap.size w w'):Ext D w w':=⟨h.os,h.tape,h.output,h.size,λk hk _=>h.block k hk⟩
def Ext.zfF{D:List Nat}{vp sp:Nat}{w w':World}(h:Chg vp sp w w')(h1:vp∈D)(h2:sp∈D):Ext D w w':=⟨h.os,h.tape,h.output,h.size,λk hk hn=>h.block k hk (λe=>hn (e▸h1)) (λe=>hn (e▸h2))⟩
def Ext.zd1{D:List Nat}{b:Nat}{w w':World}(h:Only b w w')(h1:b∈D):Ext D w w':=⟨h.os,h.tape,h.output,zdi h.size.symm,λk hk hn=>h.block k (λe=>hn (e▸h1))⟩
def Ext.mono{D E:List Nat}{w w':World}(h:Ext D w w')(hs:∀i∈D,i∈E):Ext E w w':=⟨h.os,h.tape,h.output,h.size,λk hk hn=>h.block k hk (λe=>hn (hs k e))⟩
def Ext.trans{D E:List Nat}{u v w:World}(h:Ext D u v)(k:Ext E v w)(hs:∀i∈E,i∈D\/u.heap.size<=i):Ext D u w :=
 ⟨k.os.trans h.os,k.tape.trans h.tape,k.output.trans h.output,zat h.size k.size,λi hi hn=>(k.block i (za1 hi h.size) (λe=>(hs i e).elim hn (λh2=>by omega))).trans (h.block i hi hn)⟩
def Ext.bel{D:List Nat}{B:Nat}{u w w':World}(hb:Below B u w)(h:Ext D w w')(h0:B<=w.heap.size)(hD:∀i∈D,B<=i):Below B u w' :=
 ⟨h.os.trans hb.os,h.tape.trans hb.tape,h.output.trans hb.output,zat hb.size h.size,λk hk=>(h.block k (za1 hk h0) (λe=>by have:=hD k e;omega)).trans (hb.block k hk)⟩
def Blk.ext{D:List Nat}{b:Nat}{w w':World}{vs:Lb_}{ty:TypeId}(h:Blk w b vs ty)(he:Ext D w w')(hb:b∉D):Blk w' b vs ty:=(he.block b h.lt hb).trans h
def Ext.up{D F:List Nat}{w w':World}(h:Ext D w w')(hD:∀i∈D,i∈F):Up (cD F) w w':=⟨h.size,λi hi hl=>h.block i hl (λe=>hi (hD i e))⟩
def Q5{F:List Nat}{w:World}{ao:OA}{xs:Lb_}(h:zr w ao xs)(hf:∀a,ao=some a->a.block∉F):xA F w (λw'=>zr w' ao xs):=by intro w' aw aq au aA;obtain⟨ax,ay,ai,az⟩:=h aq au aA;refine⟨ax,ay,ai,?_⟩;have aF:=aw.block ax (hf _ ai) (block_lt_of_cell az);rw[<-az];simp[World.cell?,aF]
def GQ{D:List Nat}{w w':World}{ao:OA}{xs:Lb_}(h:zr w ao xs)(he:Ext D w w')(hf:∀a,ao=some a->a.block∉D):zr w' ao xs:=Q5 h hf w' (he.up λ_ hi=>hi)
structure yq(N:List Nat)(base:Nat)(w:World)(ao:OA)(cap:Nat)(xs:La_):Prop where
 le:xs.length<=cap
 lies:zr w ao (xs.map B)
 fresh:0<xs.length->∀a,ao=some a->base<=a.block/\a.block∉N
def yq.none(N:List Nat)(base:Nat)(w:World):yq N base w none 0 []:=⟨zab _,zr.nil _ _,λh=>by cases h⟩
def yq.ext{N D:List Nat}{base:Nat}{w w':World}{ao:OA}{cap:Nat}{xs:La_}(h:yq N base w ao cap xs)(he:Ext D w w')(hD:∀i∈D,i∈N\/i<base):yq N base w' ao cap xs:=by
 refine⟨h.le,?_,h.fresh⟩;cases xs with
 | nil=>exact zr.nil _ _
 | cons x r=>exact GQ h.lies he (λa ha hi=>by have:=h.fresh ab a ha;rcases hD _ hi with h1|h1;exact this.2 h1;omega)
def yq.le'{N:List Nat}{b base:Nat}{w:World}{ao:OA}{cap:Nat}{xs:La_}(h:yq N base w ao cap xs)(hb:b<=base):yq N b w ao cap xs:=⟨h.le,h.lies,λh0 a ha=>⟨zat hb (h.fresh h0 a ha).1,(h.fresh h0 a ha).2⟩⟩
def qd(hp q:Nat)(vv nv cv:Value):Lb_:=[.pointer (some ⟨hp,0,none⟩),.pointer (some ⟨q,0,none⟩),vv,nv,cv]
def VolP(F O:List Nat)(w:World)(q p:Nat)(vv:Value):Option Vol->Prop
 | none=>vv=.pointer none
 | some v=>∃vp sp,vv=.pointer (some ⟨vp,0,none⟩)/\vI F q p vp sp w v/\vp∈O/\sp∈O
def zjw(F:List Nat)(w:World)(nv:Value):Option (yo×Nat)->Prop
 | none=>nv=.pointer none
 | some kp=>∃np cp,nv=.pointer (some ⟨np,0,none⟩)/\xA F w (λw'=>Blk w' np [.pointer (some ⟨cp,0,none⟩),.int .i64 kp.2] 124/\xB w' cp kp.1)
def zjx(F:List Nat)(w:World)(cv:Value):Option yo->Prop
 | none=>cv=.pointer none
 | some k=>∃cp,cv=.pointer (some ⟨cp,0,none⟩)/\xA F w (λw'=>xB w' cp k)
def zjw.imp{F F':List Nat}{w w':World}{nv:Value}{o:Option (yo×Nat)}(h:zjw F w nv o)(hk:∀X,xA F w X->xA F' w' X):zjw F' w' nv o:=by
 cases o with
 | none=>exact h
 | some k=>obtain⟨aaj,a2s,ag,aM⟩:=h;exact⟨aaj,a2s,ag,hk _ aM⟩
def zjx.imp{F F':List Nat}{w w':World}{cv:Value}{o:Option yo}(h:zjx F w cv o)(hk:∀X,xA F w X->xA F' w' X):zjx F' w' cv o:=by
 cases o with
 | none=>exact h
 | some k=>obtain⟨a2s,ag,aM⟩:=h;exact⟨a2s,ag,hk _ aM⟩
def vI.ext{F D:List Nat}{q p vp sp:Nat}{w w':World}{v:Vol}(h:vI F q p vp sp w v)(he:Ext D w w')(hD:∀i∈D,i∈F)(h1:vp∉D)(h2:sp∉D):vI F q p vp sp w' v:=by obtain⟨aaj,aak,h,aW⟩:=h;have aw:=he.up hD;exact⟨aaj,aak,⟨h.zei,h.ne,h.inF,h.cells.ext he h1,h.store.ext he h2,h.now.at aw,h.next.imp λ_ k=>k.at aw⟩,aW.at aw⟩
def vI.zkq{F:List Nat}{q p vp sp:Nat}{w:World}{v:Vol}(h:vI F q p vp sp w v){b:Nat}{vs:Lb_}{ty:TypeId}(hb:Blk w b vs ty)(h1:ty≠102)(h2:ty≠5):b≠vp/\b≠sp:=by obtain⟨aaj,aak,h,aW⟩:=h;exact⟨hb.ne h.cells h1,hb.ne h.store h2⟩
structure yr(F O:List Nat)(w:World)(bp:Nat)(s:yN)(hp q p:Nat)(ss:List Str)(vv nv cv:Value):Prop where
 sub:∀i∈O,i∈F
 own:bp∈O/\hp∈O
 tabs:VN F w q p
 blk:Blk w bp (qd hp q vv nv cv) 62
 head:Blk w hp (Yh q ss) 105
 len:ss.length=8
 each:∀t∈ss,xA F w (λw'=>t.In w')
 nil:∀t∈ss,t.bs.length=0->t.a=none
 hdr:rowOf ss=s.hdr
 vol:VolP F O w q p vv s.vol
 nam:zjw F w nv s.nam
 cip:zjx F w cv s.cip
 zei:s.zeq
def xi(F O:List Nat)(w:World)(bp:Nat)(s:yN):Prop:=∃hp q p ss vv nv cv,yr F O w bp s hp q p ss vv nv cv
section
variable{F O:List Nat}{w w':World}{bp hp q p:Nat}{s:yN}{ss:List Str}{vv nv cv:Value}
def yr.hd(h:yr F O w bp s hp q p ss vv nv cv):Head w hp q p ss:=⟨h.tabs.tab.self,h.head,h.len,λt ht=>(h.each t ht).self,h.nil⟩
def yr.ext{D:List Nat}(h:yr F O w bp s hp q p ss vv nv cv)(he:Ext D w w')(hD:∀i∈D,i∈F)(hO:∀i∈O,i∉D):yr F O w' bp s hp q p ss vv nv cv:=by
 have aw:=he.up hD;refine⟨h.sub,h.own,h.tabs.at aw,h.blk.ext he (hO _ h.own.1),h.head.ext he (hO _ h.own.2),h.len,λt ht=>(h.each t ht).at aw,h.nil,h.hdr,?_,h.nam.imp λ_ k=>k.at aw,h.cip.imp λ_ k=>k.at aw,h.zei⟩;have aL:=h.vol;cases e:s.vol with
 | none=>rw[e] at aL;exact aL
 | some v =>
  rw[e] at aL;obtain⟨abu,aI,ag,aM,ij,ik⟩:=aL;exact⟨abu,aI,ag,aM.ext he hD (hO _ ij) (hO _ ik),ij,ik⟩
def yr.below(h:yr F O w bp s hp q p ss vv nv cv)(hb:Below w.heap.size w w'):yr F O w' bp s hp q p ss vv nv cv:=h.ext (D:=[]) (Ext.of_below hb) (λi hi=>by cases hi) (λi _ hi=>by cases hi)
def yr.wider{F' O':List Nat}(h:yr F O w bp s hp q p ss vv nv cv)(hb:Below w.heap.size w w')(hF:∀i∈F',i∈F\/(w.heap.size<=i/\i<w'.heap.size))(hF2:∀i∈F,i∈F')(hO:∀i∈O,i∈O')(hO2:∀i∈O',i∈F'):yr F' O' w' bp s hp q p ss vv nv cv:=by
 have abv:∀i∈F',i∈F\/w.heap.size<=i:=λi hi=>(hF i hi).imp id And.left;have aQ:∀X,xA F w X->xA F' w' X:=λX k=>k.wider hb abv;have eA:=h.tabs.tab.self;have ht:VN F' w' q p:=⟨aQ _ h.tabs.tab,λhi=>(hF q hi).elim h.tabs.q (λh=>by have:=eA.tab.lt;omega),λhi=>(hF p hi).elim h.tabs.p (λh=>by have:=eA.boxes.lt;omega),λi hi=>(hF i hi).elim (λhh=>za1 (h.tabs.lt i hh) hb.size) And.right⟩
 refine⟨hO2,⟨hO _ h.own.1,hO _ h.own.2⟩,ht,h.blk.below hb h.blk.lt,h.head.below hb h.head.lt,h.len,λt ht=>aQ _ (h.each t ht),h.nil,h.hdr,?_,h.nam.imp aQ,h.cip.imp aQ,h.zei⟩;have aL:=h.vol;cases e:s.vol with
 | none=>rw[e] at aL;exact aL
 | some v =>
  rw[e] at aL;obtain⟨abu,aI,ag,aM,ij,ik⟩:=aL;exact⟨abu,aI,ag,aM.zjr hb hF ⟨hO2 _ (hO _ ij),hO2 _ (hO _ ik)⟩ ⟨eA.tab.lt,eA.boxes.lt⟩,hO _ ij,hO _ ik⟩
def yr.zfG{vp sp:Nat}{v v':Vol}(h:yr F O w bp s hp q p ss (.pointer (some ⟨vp,0,none⟩)) nv cv)(hv:vI F q p vp sp w v)(ho:vp∈O/\sp∈O)(hv':vI F q p vp sp w' v')(hc:Chg vp sp w w'):yr F O w' bp { s with vol:=some v' } hp q p ss (.pointer (some ⟨vp,0,none⟩)) nv cv:=by have aw:=hc.up ⟨h.sub _ ho.1,h.sub _ ho.2⟩;have ax:=hv.zkq h.blk bd bd;have om:=hv.zkq h.head bd bd;exact⟨h.sub,h.own,h.tabs.at aw,h.blk.chg hc ax.1 ax.2,h.head.chg hc om.1 om.2,h.len,λt ht=>(h.each t ht).at aw,h.nil,h.hdr,⟨vp,sp,rfl,hv',ho.1,ho.2⟩,h.nam.imp λ_ k=>k.at aw,h.cip.imp λ_ k=>k.at aw,⟨h.zei.hdr,λu e=>by cases e;exact hv'.zei,h.zei.nam,h.zei.cip⟩⟩
def yr.setHead{ss':List Str}{hd:Hdr}(h:yr F O w bp s hp q p ss vv nv cv)(hh:Head w' hp q p ss')(hr:rowOf ss'=hd)(hk:a0v hd)(hs:∀t∈ss',t∈ss\/∀a,t.a=some a->w.heap.size<=a.block)(hw:Xa hp w w'):yr F O w' bp { s with hdr:=hd } hp q p ss' vv nv cv:=by
 obtain⟨A4,aF,oE⟩:=hw;have aJ:Ext [hp] w w':=⟨oE.os.trans aF.os,oE.tape.trans aF.tape,oE.output.trans aF.output,zat aF.size (zdi oE.size.symm),λk hk hn=>(oE.block k (λe=>hn (by simp[e]))).trans (aF.block k hk)⟩
 have aw:=aJ.up (F:=F) (λi hi=>by simp at hi;rw[hi];exact h.sub _ h.own.2);have aX:bp≠hp:=h.blk.ne h.head bd;refine⟨h.sub,h.own,h.tabs.at aw,h.blk.ext aJ (by simp[aX]),hh.blk,hh.len,λt ht=>?_,hh.nil,hr,?_,h.nam.imp λ_ k=>k.at aw,h.cip.imp λ_ k=>k.at aw,⟨hk,h.zei.vol,h.zei.nam,h.zei.cip⟩⟩
 ·rcases hs t ht with h1|h1
  ·exact(h.each t h1).at aw
  ·have aR:=hh.each t ht;intro A4 aL;exact⟨aR.le,Q5 (F:=F) aR.lies (λa ha hi=>by have:=h1 a ha;have:=h.tabs.lt _ hi;omega) A4 aL⟩
 ·have aL:=h.vol;cases e:s.vol with
  | none=>rw[e] at aL;exact aL
  | some v =>
   rw[e] at aL;obtain⟨abu,aI,h1,ag,aM,ij⟩:=aL;have ax:=ag.zkq h.head bd bd;exact⟨abu,aI,h1,ag.ext aJ (λi hi=>by simp at hi;rw[hi];exact h.sub _ h.own.2) (by simp[ax.1.symm]) (by simp[ax.2.symm]),aM,ij⟩
def yr.store{vv' nv' cv':Value}{s':yN}(h:yr F O w bp s hp q p ss vv nv cv)(hb:Blk w' bp (qd hp q vv' nv' cv') 62)(ho:Only bp w w')(hh:s'.hdr=s.hdr)(hv:VolP F O w q p vv' s'.vol)(hn:zjw F w nv' s'.nam)(hc:zjx F w cv' s'.cip)(hk:s'.zeq):yr F O w' bp s' hp q p ss vv' nv' cv':=by
 have aJ:Ext [bp] w w':=Ext.zd1 ho ab;have E9:∀i∈[bp],i∈F:=λi hi=>by simp at hi;rw[hi];exact h.sub _ h.own.1
 have aw:=aJ.up E9;have aX:hp≠bp:=h.head.ne h.blk bd;refine⟨h.sub,h.own,h.tabs.at aw,hb,h.head.ext aJ (by simp[aX]),h.len,λt ht=>(h.each t ht).at aw,h.nil,h.hdr.trans hh.symm,?_,hn.imp λ_ k=>k.at aw,hc.imp λ_ k=>k.at aw,hk⟩;cases e:s'.vol with
 | none=>rw[e] at hv;exact hv
 | some v =>
  rw[e] at hv;obtain⟨abu,aI,ag,aM,ij,ik⟩:=hv;have ax:=aM.zkq h.blk bd bd;exact⟨abu,aI,ag,aM.ext aJ E9 (by simp[ax.1.symm]) (by simp[ax.2.symm]),ij,ik⟩
end
def yr.narrow{F F' O:List Nat}{w:World}{bp hp q p:Nat}{s:yN}{ss:List Str}{vv nv cv:Value}(h:yr F' O w bp s hp q p ss vv nv cv)(hF:∀i∈F,i∈F')(hO:∀i∈O,i∈F):yr F O w bp s hp q p ss vv nv cv:=by
 have aQ:∀X,xA F' w X->xA F w X:=λX k w' hu=>k w' ⟨hu.size,λi hi hl=>hu.block i (λh=>hi (hF i h)) hl⟩;refine⟨hO,h.own,⟨aQ _ h.tabs.tab,λhi=>h.tabs.q (hF _ hi),λhi=>h.tabs.p (hF _ hi),λi hi=>h.tabs.lt i (hF i hi)⟩,h.blk,h.head,h.len,λt ht=>aQ _ (h.each t ht),h.nil,h.hdr,?_,h.nam.imp aQ,h.cip.imp aQ,h.zei⟩;have aL:=h.vol;cases e:s.vol with
 | none=>rw[e] at aL;exact aL
 | some v =>
  rw[e] at aL;obtain⟨abu,aI,ag,aM,ij,ik⟩:=aL;exact⟨abu,aI,ag,aM.narrow hF ⟨hO _ ij,hO _ ik⟩,ij,ik⟩
def yr.news{F O A:List Nat}{w w':World}{bp hp q p:Nat}{s:yN}{ss:List Str}{vv nv cv:Value}(h:yr F O w bp s hp q p ss vv nv cv)(hb:Below w.heap.size w w')(hA:∀a∈A,w.heap.size<=a/\a<w'.heap.size):yr (A++F) O w' bp s hp q p ss vv nv cv :=
 h.wider hb (λi hi=>(zaC.1 hi).elim (λh=>.inr (hA i h)) .inl) (λi hi=>zaE _ hi) (λi hi=>hi) (λi hi=>zaE _ (h.sub i hi))
def yr.low{F O:List Nat}{w:World}{bp hp q p:Nat}{s:yN}{ss:List Str}{vv nv cv:Value}(h:yr F O w bp s hp q p ss vv nv cv){a:Nat}(ha:w.heap.size<=a):a∉O:=λhi=>by have:=h.tabs.lt _ (h.sub _ hi);omega
def yh(F O:List Nat)(w:World)(bp:Nat)(r:yN×Tld)(e:Ending)(w':World):Prop :=
 ∃(ao:OA)(cap:Nat)(N:List Nat),e=.returned (.agg #[.int .i64 r.2.1,.int .i64 r.2.2.1,.slice ao r.2.2.2.length cap])/\yq N w.heap.size w' ao cap r.2.2.2/\xi (N++F) (N++O) w' bp r.1/\Ext O w w'/\(∀i∈N,w.heap.size<=i)
def yh.of{F O N A:List Nat}{w w2 w5 w':World}{bp br cap:Nat}{r:yN×Tld}{ao:OA}{e:Ending}(hb:xi (N++(A++F)) (N++O) w5 bp r.1)(ho:yq N w2.heap.size w5 ao cap r.2.2.2)(he:Ext O w w5)(h6:Only br w5 w')(hN:∀i∈N,w2.heap.size<=i)(hbr:br∈A)(hlt:br<w2.heap.size)(hge:w.heap.size<=br)(hO:br∉O)(hsub:∀i∈O,i∈F)(h:e=.returned (.agg #[.int .i64 r.2.1,.int .i64 r.2.2.1,.slice ao r.2.2.2.length cap])):yh F O w bp r e w':=by
 have ag:Ext [br] w5 w':=Ext.zd1 h6 ab;obtain⟨eE,ey,ox,a6h,a4F,a2v,abw,hi⟩:=hb;refine⟨ao,cap,N,h,(ho.ext ag (λi hi=>by simp at hi;right;omega)).le' ae,⟨eE,ey,ox,a6h,a4F,a2v,abw,(hi.ext ag (λi hi=>by simp at hi;rw[hi];exact zaE _ (zaP _ hbr)) (λi hi=>?_)).narrow (λi hi=>?_) (λi hi=>?_)⟩,he.trans ag (λi hi=>by simp at hi;right;omega),λi hi=>by have:=hN i hi;omega⟩
 ·intro eh;simp at eh;subst eh;rcases zaC.1 hi with hi|hi
  ·have:=hN _ hi;omega
  ·exact hO hi
 ·rcases zaC.1 hi with hi|hi
  ·exact zaP _ hi
  ·exact zaE _ (zaE _ hi)
 ·rcases zaC.1 hi with hi|hi
  ·exact zaP _ hi
  ·exact zaE _ (hsub i hi)
def XM(s:yN):Prop:=∀v,s.vol=some v->v.reads<=1000000/\v.writes<=1000000
structure yT(F:List Nat)(w:World)(x:Opr):Prop where
 keep:xA F w (λw'=>x.In w')
 few:x.c.key.length<=1000/\x.c.b.length<=1000/\x.c.name.length<=1000
def yT.at{F:List Nat}{w w':World}{x:Opr}(h:yT F w x)(hu:Up (cD F) w w'):yT F w' x:=⟨h.keep.at hu,h.few⟩
def yT.below{F:List Nat}{w w':World}{x:Opr}(h:yT F w x)(hb:Below w.heap.size w w'):yT F w' x:=h.at (Up.of_below hb)
def yT.news{F A:List Nat}{w w':World}{x:Opr}(h:yT F w x)(hb:Below w.heap.size w w')(hA:∀a∈A,w.heap.size<=a):yT (A++F) w' x :=
 ⟨h.keep.wider hb (λi hi=>(zaC.1 hi).elim (λh=>.inr (hA i h)) .inl),h.few⟩
def yT.in{F:List Nat}{w:World}{x:Opr}(h:yT F w x):x.In w:=h.keep.self
def Jg(n:Int)(f:Value)(w:World):C_e 56 #[.pointer none,.int .i64 n,f] w (.int .i64 2):=by go_enter func56,ntmps56;exact aeJ
def Uo(n:Int)(w:World):C_b 34 #[.pointer none,.int .i64 n] w (.tuple #[.slice none 0 0,.int .i64 2]):=by refine aeC ?_;intro EW;go_enter func34,ntmps34;go_wp2_with (refine zh 58 _ ([.pointer none]) _ rfl rfl rfl rfl ?_);refine am7 ?_;intro A4 aF sy EW aB;go_wp2_with (refine zh 3 _ ([.int .i64 n]) _ rfl rfl rfl rfl ?_);refine am7 ?_;intro A4 aF sy EW aB;go_wp2_with (refine zf 23 ([.slice none 0 0]) _ rfl rfl jn rfl ?_);refine am7 ?_;intro A4 aF sy EW aB;have aH:=EW.g2.cell 0 _ rfl;have aH:=EW.g1.cell 0 _ rfl;exact anj
def CV(n:Int)(w:World):C_b 35 #[.pointer none,.int .i64 n] w (.tuple #[.slice none 0 0,.int .i64 2]):=by refine aeC ?_;intro EW;go_enter func35,ntmps35;go_wp2_with (refine zf 23 ([.slice none 0 0]) _ rfl rfl jn rfl ?_);refine am7 ?_;intro A4 aF sy EW aB;exact anj
def LW{w:World}{F:List Nat}{q vp sp:Nat}{v:Vol}{load:Value}{np:Nat}{xp:Value}(n:Int)(h:yp 102 F w q vp sp v load np xp)(hn:¬v.has n):C_b 35 #[pa_ vp,.int .i64 n] w (.tuple #[.slice none 0 0,.int .i64 11]):=by have OS:=zc h;have Nl:=zc hn;refine aeC ?_;intro EW;clear h hn;go_enter func35,ntmps35;go_wp2_with (refine zf 23 ([.slice none 0 0]) _ rfl rfl jn rfl ?_);refine am7 ?_;intro A4 aF sy EW aB;exact ang
def rS(n:Int)(ba:OA)(bn bc:Nat)(w:World):C_b 33 #[.pointer none,.int .i64 n,.slice ba bn bc] w (.int .i64 2):=by refine aeC ?_;intro EW;go_enter func33,ntmps33;go_wp2_with (refine zh 58 _ ([.pointer none]) _ rfl rfl rfl rfl ?_);refine am7 ?_;intro A4 aF sy EW aB;go_wp2_with (refine zh 3 _ ([.int .i64 n]) _ rfl rfl rfl rfl ?_);refine am7 ?_;intro A4 aF sy EW aB;go_wp2_with (refine zh 23 _ ([.slice ba bn bc]) _ rfl rfl rfl rfl ?_);refine am7 ?_;intro A4 aF sy EW aB;have aH:=EW.g2.cell 0 _ rfl;have aH:=EW.g1.cell 0 _ rfl;go_wp2_with fail;refine(Jg n _ _).mono ?_;rintro ai A4⟨rfl,rfl⟩;go_wp2;go_ret;exact⟨rfl,EW.bel⟩
def Uq(k x:Value)(w:World):C_e 36 #[.pointer none,k,x] w (.int .i64 2):=by go_enter func36,ntmps36;exact aeJ
def Wz(k:Value)(w:World):C_e 37 #[.pointer none,k] w (.int .i64 2):=by go_enter func37,ntmps37;exact aeJ
def Ur(w:World):C_e 38 #[.pointer none] w (.tuple #[.int .i64 0,.int .i64 2]):=by go_enter func38,ntmps38;exact aiF
def CW(k:Value)(w:World):C_e 39 #[.pointer none,k] w (.int .i64 2):=by
 go_enter func39,ntmps39;go_wp2_with fail;refine zN 0 (λ_ _=>False) (λ_ _=>0) rfl ?_ (λ_ _ h=>h.elim);simp only[qb];go_wp2_with fail;refine(Wz k _).mono ?_;rintro ai A4⟨rfl,rfl⟩;go_wp2;first|(rw[Exit.zdZ];go_ret)|go_ret
 exact aeU
def Nf(w:World):C_e 25 #[.pointer none] w (.complex .f64 0 0):=by go_enter func25,ntmps25;exact aeJ
def jR{s:yN}{v:Vol}{x:Cmd}(h:s.vol=some v)(h1:x.kind≠1)(h5:¬(x.kind=5/\(x.m<0\/255<x.m))):z6 s x=({ s with vol:=some (wV v x).1 },(wV v x).2):=by unfold z6;rw[if_neg h1,if_neg h5,h]
def jS{s:yN}{x:Cmd}(h:s.vol=none)(h1:x.kind≠1)(h5:¬(x.kind=5/\(x.m<0\/255<x.m))):z6 s x=(s,(2,0,[])):=by unfold z6;rw[if_neg h1,if_neg h5,h]
def Bo{base n:Nat}{w:World}{v:Value}{xs:La_}(h:Got base w v n xs)(hn:xs.length=n):∃ao cap,v=.slice ao xs.length cap/\yq [] base w ao cap xs:=by obtain⟨ie,cap,eC,rfl,ag,aM,ij⟩:=h;exact⟨_,cap,by rw[hn],⟨ae,Gw ij,λ_ a ha=>by cases ha;exact⟨aM,λhi=>by cases hi⟩⟩⟩
section
variable{F O:List Nat}{w:World}{bp hp q p:Nat}{s:yN}{ss:List Str}{vv nv cv:Value}{x:Opr}
def CX(h:yr F O w bp s hp q p ss vv nv cv)(hf:XM s)(hx:yT F w x)(hk:x.c.kind=2):Ca_ 33 #[vv,.int .i64 x.c.n,.slice x.bo x.c.b.length x.bc] w λe w'=>e=.returned (.int .i64 (z6 s x.c).2.1)/\yr F O w' bp (z6 s x.c).1 hp q p ss vv nv cv/\Ext O w w':=by
 have aL:=h.vol;cases e:s.vol with
 | none =>
  rw[e] at aL;cases aL;rw[jS e ae ae];exact(rS _ _ _ _ _).mono λe w' ⟨he,hb⟩=>⟨he,h.below hb,Ext.of_below hb⟩
 | some v =>
  rw[e] at aL;obtain⟨abu,aI,rfl,abx,oE⟩:=aL;have eA:=abx;obtain⟨aaj,aak,a5o,aW⟩:=abx;rw[jR e ae ae];unfold wV;rw[if_pos hk];exact(rn _ _ _ _ _ a5o (hf v e) rfl (λw' hu=>(hx.keep w' hu).b)).mono λe w' ⟨he,hv',hc⟩=>⟨he,h.zfG eA oE ⟨aaj,aak,hv',aW.at (hc.up a5o.inF)⟩ hc,Ext.zfF hc oE.1 oE.2⟩
def GR(h:yr F O w bp s hp q p ss vv nv cv)(hf:XM s)(hk:x.c.kind=3):Ca_ 34 #[vv,.int .i64 x.c.n] w λe w'=>∃ao cap,e=.returned (.tuple #[.slice ao (z6 s x.c).2.2.2.length cap,.int .i64 (z6 s x.c).2.1])/\yq [] w.heap.size w' ao cap (z6 s x.c).2.2.2/\yr F O w' bp (z6 s x.c).1 hp q p ss vv nv cv/\Ext O w w':=by
 have aL:=h.vol;cases e:s.vol with
 | none =>
  rw[e] at aL;cases aL;rw[jS e ae ae];exact(Uo _ _).mono λe w' ⟨he,hb⟩=>⟨none,0,he,yq.none _ _ _,h.below hb,Ext.of_below hb⟩
 | some v =>
  rw[e] at aL;obtain⟨abu,aI,rfl,abx,oE⟩:=aL;rw[jR e ae ae];unfold wV;rw[if_neg ae,if_pos hk];by_cases aD:v.has x.c.n
  ·rw[if_pos aD];obtain⟨n,oV⟩:∃n:Nat,x.c.n=n:=⟨x.c.n.toNat,um⟩
   have aB:n<v.zdO:=um;rw[oV,zbL];have N0:=abx.zei.zff aB;have eA:=abx;obtain⟨aaj,aak,a5o,aW⟩:=abx;refine(Gy n a5o aB (hf v e)).mono λe w' ⟨val,he,hg,hv',hc⟩=>?_;obtain⟨ao,cap,rfl,Oo⟩:=Bo hg N0;exact⟨ao,cap,he,Oo,h.zfG eA oE ⟨aaj,aak,hv',aW.at (hc.up a5o.inF)⟩ hc,Ext.zfF hc oE.1 oE.2⟩
  ·rw[if_neg aD];have eA:=abx;obtain⟨aaj,aak,a5o,aW⟩:=abx;have eg:({ s with vol:=some v }:yN)=s:=by rw[<-e]
   rw[eg];exact(Gz _ a5o aD).mono λe w' ⟨he,hb⟩=>⟨none,0,he,yq.none _ _ _,h.below hb,Ext.of_below hb⟩
def LX(h:yr F O w bp s hp q p ss vv nv cv)(hk:x.c.kind=4):Ca_ 35 #[vv,.int .i64 x.c.n] w λe w'=>∃ao cap,e=.returned (.tuple #[.slice ao (z6 s x.c).2.2.2.length cap,.int .i64 (z6 s x.c).2.1])/\yq [] w.heap.size w' ao cap (z6 s x.c).2.2.2/\yr F O w' bp (z6 s x.c).1 hp q p ss vv nv cv/\Ext O w w':=by
 have aL:=h.vol;cases e:s.vol with
 | none =>
  rw[e] at aL;cases aL;rw[jS e ae ae];exact(CV _ _).mono λe w' ⟨he,hb⟩=>⟨none,0,he,yq.none _ _ _,h.below hb,Ext.of_below hb⟩
 | some v =>
  rw[e] at aL;obtain⟨abu,aI,rfl,abx,oE⟩:=aL;rw[jR e ae ae];unfold wV;rw[if_neg ae,if_neg ae,if_pos hk];have eg:({ s with vol:=some v }:yN)=s:=by rw[<-e]
  have aby:=abx.zei;obtain⟨aaj,aak,a5o,aW⟩:=abx;by_cases aD:v.has x.c.n
  ·rw[if_pos aD];obtain⟨n,oV⟩:∃n:Nat,x.c.n=n:=⟨x.c.n.toNat,um⟩
   have aB:n<v.zdO:=um;rw[oV,zbL,eg];refine(LP n a5o aB).mono λe w' ⟨val,he,hg,hb⟩=>?_;obtain⟨ao,cap,rfl,oE⟩:=Bo hg (ja aby.len aB);exact⟨ao,cap,he,oE,h.below hb,Ext.of_below hb⟩
  ·rw[if_neg aD,eg];exact(LW _ a5o aD).mono λe w' ⟨he,hb⟩=>⟨none,0,he,yq.none _ _ _,h.below hb,Ext.of_below hb⟩
def GS(h:yr F O w bp s hp q p ss vv nv cv)(hk:x.c.kind=5)(hm:0<=x.c.m/\x.c.m<=255):Ca_ 36 #[vv,.int .i64 x.c.n,B (zaq x.c.m.toNat)] w λe w'=>e=.returned (.int .i64 (z6 s x.c).2.1)/\yr F O w' bp (z6 s x.c).1 hp q p ss vv nv cv/\Ext O w w':=by
 have aL:=h.vol;cases e:s.vol with
 | none =>
  rw[e] at aL;cases aL;rw[jS e ae ae];exact(Uq _ _ _).mono λe w' ⟨he,hb⟩=>⟨he,hb▸h,hb▸Ext.refl _ _⟩
 | some v =>
  rw[e] at aL;obtain⟨abu,aI,rfl,abx,oE⟩:=aL;have eA:=abx;rw[jR e ae ae];unfold wV;rw[if_neg ae,if_neg ae,if_neg ae,if_pos hk];exact(zjt _ _ abx).mono λe w' ⟨he,hv',hc⟩=>⟨he,h.zfG eA oE hv' hc,Ext.zfF hc oE.1 oE.2⟩
def CY(h:yr F O w bp s hp q p ss vv nv cv)(hx:yT F w x)(hg:yi w)(hk:x.c.kind=6):Ca_ 37 #[vv,.slice x.ko x.c.key.length x.kc] w λe w'=>e=.returned (.int .i64 (z6 s x.c).2.1)/\yr F O w' bp (z6 s x.c).1 hp q p ss vv nv cv/\Ext O w w':=by
 have aL:=h.vol;cases e:s.vol with
 | none =>
  rw[e] at aL;cases aL;rw[jS e ae ae];exact(Wz _ _).mono λe w' ⟨he,hb⟩=>⟨he,hb▸h,hb▸Ext.refl _ _⟩
 | some v =>
  rw[e] at aL;obtain⟨abu,aI,rfl,abx,oE⟩:=aL;have eA:=abx;rw[jR e ae ae];unfold wV;rw[if_neg ae,if_neg ae,if_neg ae,if_neg ae,if_pos hk];exact(LR _ _ _ _ abx rfl hx.in.kc.1 hx.in.key hg).mono λe w' ⟨he,hv',hc⟩=>⟨he,h.zfG eA oE hv' hc,Ext.zfF hc oE.1 oE.2⟩
def GT(h:yr F O w bp s hp q p ss vv nv cv)(hk:x.c.kind=7):Ca_ 38 #[vv] w λe w'=>e=.returned (.tuple #[.int .i64 (z6 s x.c).2.2.1,.int .i64 (z6 s x.c).2.1])/\yr F O w' bp (z6 s x.c).1 hp q p ss vv nv cv/\Ext O w w':=by
 have aL:=h.vol;cases e:s.vol with
 | none =>
  rw[e] at aL;cases aL;rw[jS e ae ae];exact(Ur _).mono λe w' ⟨he,hb⟩=>⟨he,hb▸h,hb▸Ext.refl _ _⟩
 | some v =>
  rw[e] at aL;obtain⟨abu,aI,rfl,abx,oE⟩:=aL;have eA:=abx;rw[jR e ae ae];unfold wV;rw[if_neg ae,if_neg ae,if_neg ae,if_neg ae,if_neg ae,if_pos hk];have eg:({ s with vol:=some v }:yN)=s:=by rw[<-e]
  cases e2:v.next with
  | none =>
   simp only;rw[eg];exact(LS abx e2).mono λe w' ⟨he,hb⟩=>⟨he,hb▸h,hb▸Ext.refl _ _⟩
  | some k=>exact(zjs k abx e2).mono λe w' ⟨he,hv',hc⟩=>⟨he,h.zfG eA oE hv' hc,Ext.zfF hc oE.1 oE.2⟩
def LY(h:yr F O w bp s hp q p ss vv nv cv)(hx:yT F w x)(hg:yi w)(hk:x.c.kind=8):Ca_ 39 #[vv,.slice x.ko x.c.key.length x.kc] w λe w'=>e=.returned (.int .i64 (z6 s x.c).2.1)/\yr F O w' bp (z6 s x.c).1 hp q p ss vv nv cv/\Ext O w w':=by
 have aL:=h.vol;cases e:s.vol with
 | none =>
  rw[e] at aL;cases aL;rw[jS e ae ae];exact(CW _ _).mono λe w' ⟨he,hb⟩=>⟨he,hb▸h,hb▸Ext.refl _ _⟩
 | some v =>
  rw[e] at aL;obtain⟨abu,aI,rfl,abx,oE⟩:=aL;have eA:=abx;rw[jR e ae ae];unfold wV;rw[if_neg ae,if_neg ae,if_neg ae,if_neg ae,if_neg ae,if_neg ae];exact(zlC _ _ _ _ abx rfl hx.in.kc.1 hx.in.key hg).mono λe w' ⟨he,hv',hc⟩=>⟨he,h.zfG eA oE hv' hc,Ext.zfF hc oE.1 oE.2⟩
end
structure a0d(a b:Nat)(w w':World):Prop where
 one:w'.heap[a]? = w.heap[a]?
 two:w'.heap[b]? = w.heap[b]?
def a0d.refl(a b:Nat)(w:World):a0d a b w w:=⟨rfl,rfl⟩
def a0d.trans{a b:Nat}{u v w:World}(h:a0d a b u v)(k:a0d a b v w):a0d a b u w:=⟨k.one.trans h.one,k.two.trans h.two⟩
instance (a b:Nat)(w:World):Nonempty (zO (a0d a b) w):=⟨⟨w,a0d.refl _ _ w⟩⟩
def yy:Lb_:=[.int .i64 0,.int .i64 0,.slice none 0 0]
def zM:(pgm.info? 35).map (·.zero)=some (some (.agg yy.toArray)):=e0
def zn:Row pgm 35 3:=⟨e0,e0⟩
def qM:Row pgm 38 7:=⟨e0,e0⟩
def yJ:(pgm.info? 33).map (·.size)=some 1:=e0
def qT:(pgm.info? 23).map (·.size)=some 1:=e0
def YL:(pgm.info? 3).map (·.size)=some 1:=e0
def ye(e n:Int)(ao:OA)(l c:Nat):∀v∈[Value.int .i64 e,.int .i64 n,.slice ao l c],v.oneCell'=true:=by intro v aL;simp at aL;rcases aL with rfl|rfl|rfl<;>rfl
def Va(s:yN){x:Cmd}(h:x.kind=2\/x.kind=5\/x.kind=6\/x.kind=8):(z6 s x).2.2=(0,[]):=by
 unfold z6;rw[if_neg ae];split
 ·rfl
 ·cases s.vol with
  | none=>rfl
  | some v =>
   exact ahn
def gw(s:yN){x:Cmd}(h:x.kind=3\/x.kind=4):(z6 s x).2.2.1=0:=by
 unfold z6;rw[if_neg ae,if_neg ae];cases s.vol with
 | none=>rfl
 | some v =>
  exact ahn
def Us(s:yN){x:Cmd}(h:x.kind=7):(z6 s x).2.2.2=[]:=by
 unfold z6;rw[if_neg ae,if_neg ae];cases s.vol with
 | none=>rfl
 | some v =>
  exact ahn
section
variable{F O:List Nat}{w:World}{bp:Nat}{s:yN}{x:Opr}
def CZ(h:xi F O w bp s)(hf:XM s)(hx:yT F w x)(hg:yi w)(hk:x.c.kind=2):Ca_ 21 #[pa_ bp,.agg x.vals.toArray] w (yh F O w bp (z6 s x.c)):=by
 refine alK ?_;intro eE ey ox a6h a4F a2v abw MM A6 EZ M8 I3 EW;clear h hk hx hg hf;go_enter func21,ntmps21;go_wp2_with (refine aqY ?_);refine am7 ?_;intro A4 aF sy EW aB;go_wp2_with (refine aqZ ?_);refine arh ?_;intro w2 aF sy EW aB;refine akM ?_;intro EM uX EZ M8 a9X abz abA Ik aX;generalize M1:w.heap.size=bb at*;generalize A4.heap.size=MP at*;have iy:=abz.cell 0 (.int .i64 2) vi;refine asA ?_;intro ax ef;have eY:=λ(x':zO (a0d bp bb) w2.drew)=>(show Blk x'.val bb x.vals 38 from x'.rel.two.trans abz).cell 5 (.slice x.bo x.c.b.length x.bc) rfl;go_wp2_with fail;refine yg (a0d bp bb) [] [(0,true),(1,true),(2,true),(3,true),(4,true),(5,true),(6,true),(7,true),(8,false),(9,true),(10,false)] (a0d.refl _ _) (λ_ _ _=>a0d.trans) e0 e0 ?_;rintro A4 rfl;repeat((first|refine yK rfl rfl (λK hK=>?_)|refine yc (a0d.refl _ _) rfl rfl (λK hK=>?_));go_big_quiet_step (fail);refine wpQuiet_nil (hK _ ?_);clear hK K)
 clear ax iy ef eY;refine aiO ?_;intro K hK ah;refine(CX (uX.below ah) I3 (EZ.below ah) MM).mono ?_;exact asU
def C0(h:xi F O w bp s)(hf:XM s)(hx:yT F w x)(hg:yi w)(hk:x.c.kind=3):Ca_ 21 #[pa_ bp,.agg x.vals.toArray] w (yh F O w bp (z6 s x.c)):=by
 refine alK ?_;intro eE ey ox a6h a4F a2v abw MM A6 EZ M8 I3 EW;clear h hk hx hg hf;go_enter func21,ntmps21;go_wp2_with (refine aqY ?_);refine am7 ?_;intro A4 aF sy EW aB;go_wp2_with (refine aqZ ?_);refine arh ?_;intro w2 aF sy EW aB;refine akM ?_;intro EM uX EZ M8 a9X abz abA Ik aX;generalize M1:w.heap.size=bb at*;generalize A4.heap.size=MP at*;have iy:=abz.cell 0 (.int .i64 3) vi;refine asA ?_;intro ax ef;go_wp2_with fail;refine yg (a0d bp bb) [] [(0,true),(1,true),(2,true),(3,true),(4,true),(5,true),(6,false),(7,true),(8,true),(9,true),(10,true),(11,false),(12,true),(13,false)] (a0d.refl _ _) (λ_ _ _=>a0d.trans) e0 e0 ?_;rintro A4 rfl;repeat((first|refine yK rfl rfl (λK hK=>?_)|refine yc (a0d.refl _ _) rfl rfl (λK hK=>?_));go_big_quiet_step (fail);refine wpQuiet_nil (hK _ ?_);clear hK K)
 clear ax iy ef;refine aiO ?_;intro K hK ah;refine(GR (uX.below ah) I3 MM).mono ?_;exact asV
def C1(h:xi F O w bp s)(hf:XM s)(hx:yT F w x)(hg:yi w)(hk:x.c.kind=4):Ca_ 21 #[pa_ bp,.agg x.vals.toArray] w (yh F O w bp (z6 s x.c)):=by
 refine alK ?_;intro eE ey ox a6h a4F a2v abw MM A6 EZ M8 I3 EW;clear h hk hx hg hf;go_enter func21,ntmps21;go_wp2_with (refine aqY ?_);refine am7 ?_;intro A4 aF sy EW aB;go_wp2_with (refine aqZ ?_);refine arh ?_;intro w2 aF sy EW aB;refine akM ?_;intro EM uX EZ M8 a9X abz abA Ik aX;generalize M1:w.heap.size=bb at*;generalize A4.heap.size=MP at*;have iy:=abz.cell 0 (.int .i64 4) vi;refine asA ?_;intro ax ef;go_wp2_with fail;refine yg (a0d bp bb) [] [(0,true),(1,true),(2,true),(3,true),(4,true),(5,true),(6,false),(7,true),(8,true),(9,true),(10,true),(11,false),(12,true),(13,false)] (a0d.refl _ _) (λ_ _ _=>a0d.trans) e0 e0 ?_;rintro A4 rfl;repeat((first|refine yK rfl rfl (λK hK=>?_)|refine yc (a0d.refl _ _) rfl rfl (λK hK=>?_));go_big_quiet_step (fail);refine wpQuiet_nil (hK _ ?_);clear hK K)
 clear ax iy ef;refine aiO ?_;intro K hK ah;refine(LX (uX.below ah) MM).mono ?_;exact asV
def C2(h:xi F O w bp s)(hf:XM s)(hx:yT F w x)(hg:yi w)(hk:x.c.kind=5)(hm:0<=x.c.m/\x.c.m<=255):Ca_ 21 #[pa_ bp,.agg x.vals.toArray] w (yh F O w bp (z6 s x.c)):=by
 refine aeG ?_;intro eE ey ox a6h a4F a2v abw hi MM A6 EZ;clear h;have M8:=zc hg;have I3:=zc hf;refine aeC ?_;intro EW;obtain⟨mm,abC⟩:∃mm:Nat,x.c.m=mm:=⟨x.c.m.toNat,ae⟩
 have eh:mm<=255:=ae;have abD:=ha_ (x.c.m=(mm:Int)/\0<=x.c.m/\x.c.m<=255) ⟨abC,hm⟩;have Am:IntKind.u8.wrap (mm:Int)=((zaq mm).toNat:Int):=Ho mm;have aN:decide ((mm:Int)<0)=false:=ab;have eK:decide ((mm:Int)>255)=false:=bq;have Ed:decide ((255:Int)<mm)=false:=bq;have a4S:decide (255<mm)=false:=bq;clear hm abC;clear hk hi hx hg hf;go_enter func21,ntmps21;go_wp2_with (refine aqY ?_);refine am7 ?_;intro A4 aF sy EW aB;go_wp2_with (refine aqZ ?_);refine arh ?_;intro w2 aF sy EW aB;refine akM ?_;intro EM uX EZ M8 a9X abz abA Ik aX;generalize M1:w.heap.size=bb at*;generalize A4.heap.size=MP at*;have iy:=abz.cell 0 (.int .i64 5) vi;have A5:=abz.cell 3 (.int .i64 mm) (by rw[<-abD.1];rfl);go_wp2;refine asA ?_;intro ax ef;have eY:=λ(x':zO (a0d bp bb) w2.drew)=>(show Blk x'.val bb x.vals 38 from x'.rel.two.trans abz).cell 3 (.int .i64 mm) (by rw[<-abD.1];rfl);go_wp2_with fail;refine yg (a0d bp bb) [] [(0,true),(1,true),(2,true),(3,true),(4,true),(5,true),(6,true),(7,true),(8,true),(9,false),(10,true),(11,false)] (a0d.refl _ _) (λ_ _ _=>a0d.trans) e0 e0 ?_;rintro A4 rfl;repeat((first|refine yK rfl rfl (λK hK=>?_)|refine yc (a0d.refl _ _) rfl rfl (λK hK=>?_));go_big_quiet_step (fail);refine wpQuiet_nil (hK _ ?_);clear hK K)
 clear ax iy ef eY A5 aN eK Ed a4S;refine aiO ?_;intro K hK ah;have PW:=GS (uX.below ah) MM abD.2;rw[show x.c.m.toNat=mm by rw[abD.1,zbL]] at PW;refine(PW).mono ?_;rintro ai A4⟨rfl,aF,aJ⟩;refine asx ?_;intro eg abA EM uY;go_simp;refine hK _ _ (λ_=>eg) ?_;clear hK K eg aJ ah PW;exact asO
def C3(h:xi F O w bp s)(hf:XM s)(hx:yT F w x)(hg:yi w)(hk:x.c.kind=6):Ca_ 21 #[pa_ bp,.agg x.vals.toArray] w (yh F O w bp (z6 s x.c)):=by
 refine alK ?_;intro eE ey ox a6h a4F a2v abw MM A6 EZ M8 I3 EW;clear h hk hx hg hf;go_enter func21,ntmps21;go_wp2_with (refine aqY ?_);refine am7 ?_;intro A4 aF sy EW aB;go_wp2_with (refine aqZ ?_);refine arh ?_;intro w2 aF sy EW aB;refine akM ?_;intro EM uX EZ M8 a9X abz abA Ik aX;generalize M1:w.heap.size=bb at*;generalize A4.heap.size=MP at*;have iy:=abz.cell 0 (.int .i64 6) vi;refine asS ?_;intro ax ef;go_wp2_with fail;refine yg (a0d bp bb) [] [(0,true),(1,true),(2,true),(3,true),(4,true),(5,true),(6,false),(7,true),(8,false)] (a0d.refl _ _) (λ_ _ _=>a0d.trans) e0 e0 ?_;rintro A4 rfl;repeat((first|refine yK rfl rfl (λK hK=>?_)|refine yc (a0d.refl _ _) rfl rfl (λK hK=>?_));go_big_quiet_step (fail);refine wpQuiet_nil (hK _ ?_);clear hK K)
 clear ax iy ef;refine aiO ?_;intro K hK ah;refine(CY (uX.below ah) (EZ.below ah) (M8.below ah) MM).mono ?_;exact asU
def C4(h:xi F O w bp s)(hf:XM s)(hx:yT F w x)(hg:yi w)(hk:x.c.kind=7):Ca_ 21 #[pa_ bp,.agg x.vals.toArray] w (yh F O w bp (z6 s x.c)):=by refine alK ?_;intro eE ey ox a6h a4F a2v abw MM A6 EZ M8 I3 EW;clear h hk hx hg hf;go_enter func21,ntmps21;go_wp2_with (refine aqY ?_);refine am7 ?_;intro A4 aF sy EW aB;go_wp2_with (refine aqZ ?_);refine amb ?_;intro Ev aF sy EW aB;refine akM ?_;intro EM uX EZ M8 a9X abz abA Ik aX;generalize M1:w.heap.size=MN at*;generalize A4.heap.size=MP at*;have iy:=abz.cell 0 (.int .i64 7) vi;have ax:=uX.blk.cell 2 a4F rfl;go_wp2_with fail;refine(GT uX MM).mono ?_;rintro ai A4⟨rfl,aF,aJ⟩;refine afD ?_;intro abA EM;have uY:=ha_ (xi ([]++([MP,MN]++F)) ([]++O) A4 bp (z6 s x.c).1) ⟨_,_,_,_,_,_,_,aF⟩;clear aJ ax iy;go_wp2_with (refine abA.zeJ (i:=1) (v:=.int .i64 (z6 s x.c).2.2.1) rfl rfl rfl rfl YL rfl rfl vu ?_);refine anx ?_;intro IX aF oE abA I9;go_wp2_with (refine abA.zeJ (i:=0) (v:=.int .i64 (z6 s x.c).2.1) rfl rfl rfl rfl yJ rfl rfl vu ?_);intro IX aF oE;have abA:=zc aF;have I9:=zc (I9.trans oE);go_wp2_with (first|(refine abA.zdS rfl rfl rfl zn rfl ?_)|(refine abA.zdP rfl rfl rfl (cs:=[.int .i64 (z6 s x.c).2.1,.int .i64 (z6 s x.c).2.2.1,.slice none 0 0]) rfl zn rfl rfl (ye _ _ _ _ _) ?_));intro IX aF oE;have uX:=zc aF;have I9:=zc (I9.trans oE);go_wp2;refine uX.result rfl rfl rfl zn rfl ?_;have ai:=Us s (x:=x.c) MM;exact yh.of uY (ao:=none) (cap:=0) (by rw[ai];exact yq.none [] Ev.heap.size A4) EM I9 (λi hi=>by cases hi) ab ae ae a9X.1 a9X.2.2 x5
def C5(h:xi F O w bp s)(hf:XM s)(hx:yT F w x)(hg:yi w)(hk:x.c.kind=8):Ca_ 21 #[pa_ bp,.agg x.vals.toArray] w (yh F O w bp (z6 s x.c)):=by
 refine alK ?_;intro eE ey ox a6h a4F a2v abw MM A6 EZ M8 I3 EW;clear h hk hx hg hf;go_enter func21,ntmps21;go_wp2_with (refine aqY ?_);refine am7 ?_;intro A4 aF sy EW aB;go_wp2_with (refine aqZ ?_);refine arh ?_;intro w2 aF sy EW aB;refine akM ?_;intro EM uX EZ M8 a9X abz abA Ik aX;generalize M1:w.heap.size=bb at*;generalize A4.heap.size=MP at*;have iy:=abz.cell 0 (.int .i64 8) vi;refine asS ?_;intro ax ef;go_wp2_with fail;refine yg (a0d bp bb) [] [(0,true),(1,true),(2,true),(3,true),(4,true),(5,true),(6,false),(7,true),(8,false)] (a0d.refl _ _) (λ_ _ _=>a0d.trans) e0 e0 ?_;rintro A4 rfl;repeat((first|refine yK rfl rfl (λK hK=>?_)|refine yc (a0d.refl _ _) rfl rfl (λK hK=>?_));go_big_quiet_step (fail);refine wpQuiet_nil (hK _ ?_);clear hK K)
 clear ax iy ef;refine aiO ?_;intro K hK ah;refine(LY (uX.below ah) (EZ.below ah) (M8.below ah) MM).mono ?_;exact asU
def Ut(h:xi F O w bp s)(hk:x.c.kind=5)(hm:x.c.m<0\/255<x.c.m):Ca_ 21 #[pa_ bp,.agg x.vals.toArray] w (yh F O w bp (z6 s x.c)):=by
 obtain⟨eE,ey,ox,a6h,a4F,a2v,abw,hi⟩:=h;have MM:=zc hk;have A6:=zc hi;refine aeC ?_;intro EW;obtain⟨aZ,eh⟩:=n_ x.c.m;have PK:=zc (And.intro eh hm);have ah:decide (aZ<0)=true\/(decide (aZ<0)=false/\decide (aZ>255)=true/\decide (255<aZ)=true):=by
  by_cases ag:aZ<0
  ·exact .inl bq
  ·exact .inr ⟨bq,bq,bq⟩
 clear hm eh;clear hk hi;go_enter func21,ntmps21;go_wp2_with (refine aqY ?_);refine am7 ?_;intro A4 aF sy EW aB;go_wp2_with (refine aqZ ?_);refine amb ?_;intro Ev aF sy EW aB;have EM:=zc (Ext.of_below (D:=O) EW.bel);have uX:=zc (A6.news (A:=[A4.heap.size,w.heap.size]) EW.bel bq);have a9X:=zc (And.intro (A6.low (a:=A4.heap.size) ae) (And.intro (A6.low (a:=w.heap.size) (zab _)) A6.sub));have abz:=zc EW.g1;have abA:=zc EW.g0;have Ik:=uX.blk.lt;have aX:bp<w.heap.size:=A6.blk.lt;generalize M1:w.heap.size=MN at*;generalize A4.heap.size=MP at*;have iy:=abz.cell 0 (.int .i64 5) vi;have iy:=abz.cell 3 (.int .i64 aZ) (by rw[PK.1];rfl);have a57:pgm.built 35 [(0,.int .i64 21)]=some #[.int .i64 21,.int .i64 0,.slice none 0 0]:=e0;have ai:z6 s x.c=(s,(21,0,[])):=by
  unfold z6;rw[if_neg wm,if_pos ⟨MM.o,PK.2⟩]
 have uY:=ha_ (xi ([]++([MP,MN]++F)) ([]++O) Ev bp (z6 s x.c).1) (by rw[ai];exact⟨_,_,_,_,_,_,_,uX⟩);refine ajU ai ?_;intro TO;clear ai;rcases ah with d1|⟨d1,d2,d3⟩
 all_goals(
  go_wp2_with (refine HW ?_);refine anx ?_;intro A4 aF oE uX I9;go_wp2;refine uX.result rfl rfl rfl zn rfl ?_;exact yh.of uY (ao:=none) (cap:=0) (by rw[TO.1];exact yq.none [] Ev.heap.size Ev) EM I9 (λi hi=>by cases hi) ab ae ae a9X.1 a9X.2.2 (by rw[TO.1];rfl))
end
def rT(q:Nat)(alg size zdO:Int)(ka:OA)(kn kc:Nat)(w:World)(hw:vT alg size zdO kn≠0):C_b 54 #[pa_ q,.agg #[.int .i64 alg,.int .i64 size,.int .i64 zdO],.slice ka kn kc] w (.tuple #[.pointer none,.int .i64 (vT alg size zdO kn)]):=by
 refine aeC ?_;intro EW;obtain⟨An,eI⟩:=n_ (vT alg size zdO kn);rw[<-eI] at hw |-;unfold vT at eI;by_cases ag:size<16\/4096<size
 ·have uY:=ha_ (An=4/\True) ⟨by rw[eI,if_pos ag],trivial⟩;have ah:decide (size<16)=true\/(decide (size<16)=false/\decide (size>4096)=true/\decide (4096<size)=true):=by
   by_cases aM:size<16
   ·exact .inl bq
   ·exact .inr ⟨bq,bq,bq⟩
  clear eI ag hw;rcases ah with d1|⟨d1,d2,d3⟩
  all_goals(
   go_enter func54,ntmps54;go_wp2_with (refine aqU ?_);intro A4 aF sy;have EW:=zc (EW.push aF sy);have az:=aF.cell 1 _ rfl;go_wp2;go_ret2;rw[uY.1];exact⟨rfl,EW.bel⟩)
 have d1:decide (size<16)=false:=bq;have d2:decide (size>4096)=false:=bq;have d3:decide (4096<size)=false:=bq;by_cases aM:zdO<1\/256<zdO
 ·have uY:=ha_ (An=11/\True) ⟨by rw[eI,if_neg ag,if_pos aM],trivial⟩;have ah:decide (zdO<1)=true\/(decide (zdO<1)=false/\decide (zdO>256)=true/\decide (256<zdO)=true):=by
   by_cases ij:zdO<1
   ·exact .inl bq
   ·exact .inr ⟨bq,bq,bq⟩
  clear eI ag aM hw;rcases ah with e1|⟨e1,e2,e3⟩
  all_goals(
   go_enter func54,ntmps54;go_wp2_with (refine aqU ?_);intro A4 aF sy;have EW:=zc (EW.push aF sy);have az:=aF.cell 1 _ rfl;have AV:=aF.cell 2 _ rfl;go_wp2;go_ret2;rw[uY.1];exact⟨rfl,EW.bel⟩)
 have e1:decide (zdO<1)=false:=bq;have e2:decide (zdO>256)=false:=bq;have e3:decide (256<zdO)=false:=bq;rw[if_neg ag,if_neg aM] at eI;have MY:=ha_ (zd6 alg kn≠0/\((zd6 alg kn:Nat):Int)=An) ⟨ae,eI.symm⟩;have aN:(An != 0)=true:=by simp;exact hw
 clear eI ag aM hw;go_enter func54,ntmps54;go_wp2_with (refine aqU ?_);intro A4 aF sy;have EW:=zc (EW.push aF sy);have AW:=aF.cell 0 _ rfl;have az:=aF.cell 1 _ rfl;have AV:=aF.cell 2 _ rfl;go_wp2_with fail;refine(QN alg q ka kn kc _ MY.1).mono ?_;rintro ai A4⟨rfl,rfl⟩;rw[MY.2];go_wp2;go_ret2;exact⟨rfl,EW.bel⟩
def VQ(c:Int)(f:Value)(w:World)(hc:c≠0):C_e 42 #[.int .i64 c,f] w (.int .i64 c):=by
 have aN:(c==0)=false:=by simp;exact hc
 clear hc;go_enter func42,ntmps42;exact aeJ
def cP(fid:Nat)(c1 c2:Value)(w:World)(R:World->Prop)(hF:∀args w,(callFunc fid args).run pgm w=.ok (.enter fid args) w)(hd:Ca_ fid #[c1,c2] w λe w'=>(∃z,e=.returned z)/\R w'):Ca_ 42 #[.int .i64 0,.func (.func fid) #[] #[c1,c2]] w λe w'=>e=.returned (.int .i64 0)/\R w':=by have NI:=zc hd;clear hd;go_enter func42,ntmps42;go_wp2_with fail;refine NI.mono ?_;rintro e A4⟨⟨z,rfl⟩,eI⟩;have uY:=zc eI;clear eI hF;go_wp2;go_ret;exact ak9 uY
def KB:(pgm.info? 58).map (·.size)=some 1:=e0
def dQ:(pgm.info? 58).map (·.zero)=some (some (.pointer none)):=e0
def rU(a n m:Int):pgm.built 100 [(0,.int .i64 a),(1,.int .i64 n),(2,.int .i64 m)]=some #[.int .i64 a,.int .i64 n,.int .i64 m]:=e0
def dR:∀args w,(callFunc 55 args).run pgm w=.ok (.enter 55 args) w:=enters func55 e0 rfl
def LZ(b1 b2 bp:Nat)(hp q:Nat)(vv nv cv vn:Value)(w:World)(h1:Blk w b1 [vn] 58)(h2:Blk w b2 [pa_ bp] 27)(hb:Blk w bp (qd hp q vv nv cv) 62)(hvn:vn.oneCell'=true)(hvc:vn.cells=#[vn]):Ca_ 55 #[pa_ b1,pa_ b2] w λe w'=>(∃z,e=.returned z)/\Blk w' bp (qd hp q vn nv cv) 62/\Only bp w w':=by have uX:=zc hb;have iy:=h1.cell 0 _ rfl;have iy:=h2.cell 0 _ rfl;clear h1 h2 hb;go_enter func55,ntmps55;go_wp2_with (refine uX.zeJ (i:=2) (v:=vn) rfl rfl rfl rfl KB hvc hvn (by simp[qd]) ?_);exact anf
def VR(c:Int)(V:Vol)(q p base:Nat)(FX:List Nat)(w:World)(v:Value):Prop :=
 (c≠0/\v=.pointer none)\/(c=0/\∃vp sp np,v=.pointer (some ⟨vp,0,none⟩)/\yp 102 (vp::sp::FX) w q vp sp V (yQ V) np (.pointer none)/\VN (vp::sp::FX) w q p/\base<=vp/\base<=sp)
def VR.le{c:Int}{V:Vol}{q p b base:Nat}{FX:List Nat}{w:World}{v:Value}(h:VR c V q p base FX w v)(hb:b<=base):VR c V q p b FX w v:=by
 rcases h with h|⟨h,vp,sp,np,e1,e2,e3,e4,e5⟩
 ·exact .inl h
 ·exact .inr ⟨h,vp,sp,np,e1,e2,e3,zat hb e4,zat hb e5⟩
def VR.good{c:Int}{V:Vol}{q p base:Nat}{FX:List Nat}{w:World}{v:Value}(h:VR c V q p base FX w v)(hc:c=0):∃vp sp np,v=.pointer (some ⟨vp,0,none⟩)/\yp 102 (vp::sp::FX) w q vp sp V (yQ V) np (.pointer none)/\VN (vp::sp::FX) w q p/\base<=vp/\base<=sp:=by
 rcases h with h|h
 ·exact absurd hc h.1
 ·exact h.2
def VR.cons{c:Int}{V:Vol}{q p base:Nat}{FX:List Nat}{w w':World}{v:Value}(h:VR c V q p base FX w v)(hb:Below w.heap.size w w')(hlt:w.heap.size<w'.heap.size):VR c V q p base (w.heap.size::FX) w' v:=by
 rcases h with h|⟨h,vp,sp,np,e1,hv,ht,e4,e5⟩
 ·exact .inl h
 ·have AF:∀i∈vp::sp::w.heap.size::FX,i∈vp::sp::FX\/w.heap.size<=i/\i<w'.heap.size:=λi hi=>by
   simp only[zau] at hi |-;rcases hi with rfl|rfl|rfl|hi
   ·simp
   ·simp
   ·right;omega
   ·left;simp[hi]
  have eA:=ht.tab.self;exact .inr ⟨h,vp,sp,np,e1,hv.wider hb (λi hi=>(AF i hi).imp id And.left) ⟨ab,ab⟩,⟨ht.tab.wider hb (λi hi=>(AF i hi).imp id And.left),λhi=>(AF _ hi).elim ht.q (λh=>by have:=eA.tab.lt;omega),λhi=>(AF _ hi).elim ht.p (λh=>by have:=eA.boxes.lt;omega),λi hi=>(AF i hi).elim (λh=>za1 (ht.lt i h) hb.size) And.right⟩,e4,e5⟩
def VR.only{c:Int}{V:Vol}{q p base bx:Nat}{FX:List Nat}{w w':World}{v:Value}{vs:Lb_}(h:VR c V q p base FX w v)(ho:Only bx w w')(hb:Blk w bx vs 58)(hin:bx∈FX):VR c V q p base FX w' v:=by
 rcases h with h|⟨h,vp,sp,np,e1,hv,ht,e4,e5⟩
 ·exact .inl h
 ·exact .inr ⟨h,vp,sp,np,e1,hv.free (zJ.zd1 ho) (by simp[hin]) (hv.cells.ne hb bd) (hv.store.ne hb bd),ht.at (Up.zd1 ho (λh=>h (by simp[hin]))),e4,e5⟩
def rV(FX:List Nat)(q p:Nat)(alg size zdO:Int)(ka:OA)(kn kc:Nat)(key:La_)(w:World)(hkn:key.length=kn)(hkc:kn<=kc)(hkl:zr w ka (key.map B))(ht:Tab w q p)(hg:yi w)(hF:∀i∈FX,i<w.heap.size/\i≠q/\i≠p):Ca_ 54 #[pa_ q,.agg #[.int .i64 alg,.int .i64 size,.int .i64 zdO],.slice ka kn kc] w λe w'=>∃v:OA,e=.returned (.tuple #[.pointer v,.int .i64 (vT alg size zdO kn)])/\VR (vT alg size zdO kn) (zeA alg size.toNat zdO.toNat key) q p w.heap.size FX w' (.pointer v)/\Below w.heap.size w w':=by
 by_cases Am:vT alg size zdO kn=0
 ·obtain⟨oW,oX,rfl,rfl,ag,aM,ij⟩:=V9 Am;rw[Am,zbL,zbL];refine(Ug FX q p alg oW oX ka kn kc key w ag aM ij hkn hkc hkl ht hg hF).mono ?_;rintro e w'⟨abu,aI,aaj,he,aL,abE,ie,oL,hb⟩;exact⟨_,he,.inr ⟨rfl,abu,aI,aaj,rfl,aL,abE,ie,oL⟩,hb⟩
 ·exact(rT q alg size zdO ka kn kc w Am).mono λe w' ⟨he,hb⟩=>⟨none,he,.inl ⟨Am,rfl⟩,hb⟩
section
variable{F O:List Nat}{w:World}{bp hp q p:Nat}{s:yN}{ss:List Str}{vv nv cv:Value}{x:Opr}
def FmtB(F O:List Nat)(w:World)(bp:Nat)(r:yN×Int)(e:Ending)(w':World):Prop :=
 e=.returned (.int .i64 r.2)/\∃N,xi (N++F) (N++O) w' bp r.1/\Ext O w w'/\∀i∈N,w.heap.size<=i
def mA{F:List Nat}{w wx:World}{q p i:Nat}(ht:VN F w q p)(hb:Below w.heap.size w wx)(h:i∈F\/w.heap.size<=i/\i<wx.heap.size):i<wx.heap.size/\i≠q/\i≠p:=by
 have eA:=ht.tab.self;have ag:=eA.tab.lt;have ag:=eA.boxes.lt;have eg:=hb.size;rcases h with h|⟨h,h3⟩
 ·have:=ht.lt i h;exact⟨ae,λe=>ht.q (e▸h),λe=>ht.p (e▸h)⟩
 ·exact⟨h3,ae,ae⟩
def cQ(h:yr F O w bp s hp q p ss vv nv cv)(hg:yi w)(ka:OA)(kn kc:Nat)(key:La_)(hkn:key.length=kn)(hkc:kn<=kc)(hkl:zr w ka (key.map B)):Ca_ 32 #[pa_ bp,.agg x.vals.toArray,.slice ka kn kc] w (FmtB F O w bp (kS s x.c key)):=by
 refine ajJ h hg hkn ?_;intro A6 M8 a6E;have No:=zc hkl;refine aeC ?_;intro EW;obtain⟨abF,abG⟩:=n_ x.c.a;obtain⟨a88,a89⟩:=n_ x.c.n;obtain⟨abH,abI⟩:=n_ x.c.m;obtain⟨c,az⟩:=n_ (vT abF a88 abH kn);obtain⟨V,Ty⟩:=n_ (zeA abF a88.toNat abH.toNat key);have SW:=zc (And.intro az.symm trivial);have OS:=s_ Ty;have a8b:=ha_ (x.vals.length=7/\x.vals[1]? = some (.int .i64 abF)/\x.vals[2]? = some (.int .i64 a88)/\x.vals[3]? = some (.int .i64 abH)) ⟨rfl,by rw[abG];rfl,by rw[a89];rfl,by rw[abI];rfl⟩;have abJ:=ha_ (kS s x.c key=(if c=0 then({ s with vol:=some V },0) else(s,c))/\True) ⟨by unfold kS;rw[az,Ty,abG,a89,abI,hkn],trivial⟩;have aam:=zc (Vv h.zei x.c key);clear h hg hkn hkl abG a89 abI az Ty;go_enter func32,ntmps32;go_wp2_with (refine ar0 ?_);refine anw EW ?_;intro A4 hb hbel EW aB;go_wp2_with (refine aqY ?_);refine anw EW ?_;intro w2 hb hbel EW aB;have uX:=zc (A6.below EW.bel);have aT:=EW.size;have Pp:=λ(z:zL w2.drew)=>((EW.drew.later z.later).get 1 rfl).cell 0 _ rfl;have TC:=λ(z:zL w2.drew)=>((EW.drew.later z.later).get 0 rfl).cell 1 _ a8b.2.1;have a7K:=λ(z:zL w2.drew)=>((EW.drew.later z.later).get 0 rfl).cell 2 _ a8b.2.2.1;have a7L:=λ(z:zL w2.drew)=>((EW.drew.later z.later).get 0 rfl).cell 3 _ a8b.2.2.2;have Np:=λ(z:zL w2.drew)=>((uX.blk.drew).below z.later uX.blk.drew.lt).cell 1 (.pointer (some ⟨q,0,none⟩)) rfl;have a8U:=rU abF a88 abH;go_wp2_with fail;refine QE [0,1,2,3,4,5,6,7,8,9,10,11] [12,13,14,15,16,17] [18] [(13,[12]),(14,[13]),(15,[13]),(17,[14,16])] (λD y wx=>∃(rv:OA)(v7 v9 v22 v23 v24:Value)(FX:List Nat),y={ tmps:=#[.pointer (some ⟨bp,0,none⟩),.agg x.vals.toArray,.slice ka kn kc,.pointer (some ⟨w.heap.size,0,none⟩),.pointer (some ⟨A4.heap.size,0,none⟩),undef,.int .i64 0,v7,undef,v9,.pointer (some ⟨bp,0,none⟩),.pointer (some ⟨bp,0,none⟩),.pointer (some ⟨bp,1,none⟩),.pointer (some ⟨q,0,none⟩),.pointer (some ⟨A4.heap.size,1,none⟩),.int .i64 abF,.pointer (some ⟨A4.heap.size,2,none⟩),.int .i64 a88,.pointer (some ⟨A4.heap.size,3,none⟩),.int .i64 abH,.agg #[.int .i64 abF,.int .i64 a88,.int .i64 abH],.slice ka kn kc,v22,v23,v24,undef,undef,undef],defers:=[] }/\Hid (Below w2.heap.size w2 wx)/\Hid (∀i∈FX,i∈F\/w2.heap.size<=i/\i<wx.heap.size)/\Hid (∀i∈F,i∈FX)/\Hid (D 12=true->v22=.tuple #[.pointer rv,.int .i64 c]/\VR c V q p w2.heap.size FX wx (.pointer rv))/\Hid (D 13=true->D 12=true/\v9=.tuple #[.pointer rv,.int .i64 c])/\Hid (D 14=true->D 13=true/\v23=.pointer rv)/\Hid (D 15=true->D 13=true/\v24=.int .i64 c)/\Hid (D 16=true->∃bx,v7=.pointer (some ⟨bx,0,none⟩)/\bx∈FX/\w2.heap.size<=bx/\Blk wx bx [.pointer (if D 17 then rv else none)] 58)/\Hid (D 17=true->D 14=true/\D 16=true)) e0 e0 ?_ ?_ ?_
 ·rintro A4 rfl;iterate 12 refine m10 ?_
  refine xF ⟨none,_,_,_,_,_,F,rfl,zc (Below.refl _ _).drew,zc (λi hi=>.inl hi),zc (λi hi=>hi),zc (λh=>by cases h),zc (λh=>by cases h),zc (λh=>by cases h),zc (λh=>by cases h),zc (λh=>by cases h),zc (λh=>by cases h)⟩
 ·clear Pp TC a7K a7L Np a8U;rintro D y wx a2m a1V a1Y a1X⟨rv,v7,v9,v22,v23,v24,FX,rfl,To,abK,abL,TN,PK,EM,TO,a0G,HST⟩;have eg:=To.size;simp only[zau,List.not_mem_nil,or_false] at a1V;rcases a1V with rfl|rfl|rfl|rfl|rfl|rfl
  ·have abM:D 13=true->False:=λh=>by have:=(PK h).1;rw[a1Y] at this;cases this
   have zjy:D 14=true->False:=λh=>abM (EM h).1;have abN:D 15=true->False:=λh=>abM (TO h).1;have abO:D 17=false:=by cases h:D 17 with|false=>rfl|true=>exact(zjy (HST h).1).elim
   refine aiL ?_;intro K hK;have abP:∀i∈FX,i<wx.heap.size/\i≠q/\i≠p:=λi hi=>mA uX.tabs To (abK i hi);refine(rV FX q p abF a88 abH ka kn kc key _ a6E hkc (No.below (EW.bel.trans (To.mono aT))) (uX.tabs.tab.self.below To (zab _)) (M8.below (EW.bel.trans (To.mono aT))) abP).mono ?_;rintro e w'⟨abQ,rfl,OZ,hbel⟩;rw[SW.1] at OZ |-;rw[OS.1] at OZ;have OZ:=OZ.le eg;exact afg
  ·obtain⟨rfl,hg⟩:=TN (a1X 12 p0);refine aiL ?_;intro K hK;refine hK _ _ ?_;exact⟨λ_=>Below.refl _ _,rv,v7,_,_,v23,v24,FX,rfl,To,abK,abL,zc (λ_=>⟨rfl,hg⟩),zc (λ_=>⟨by simp[a1X 12 (by simp[yw])],rfl⟩),zc (λh=>⟨ab,(EM cw).2⟩),zc (λh=>⟨ab,(TO cw).2⟩),zc (λh=>by simpa using a0G.o cw),zc (λh=>by have ag:=HST.o cw;simp[ag.1,ag.2])⟩
  ·obtain⟨abR,rfl⟩:=PK (a1X 13 p0);refine aiL ?_;intro K hK;refine hK _ _ ?_;exact⟨λ_=>Below.refl _ _,rv,v7,_,v22,_,v24,FX,rfl,To,abK,abL,zc (λh=>TN cw),zc (λh=>⟨by simp[abR],rfl⟩),zc (λ_=>⟨x6,rfl⟩),zc (λh=>⟨x6,(TO cw).2⟩),zc (λh=>by simpa using a0G.o cw),zc (λh=>by have ag:=HST.o cw;simp[ag.1,ag.2])⟩
  ·obtain⟨abR,rfl⟩:=PK (a1X 13 p0);refine aiL ?_;intro K hK;refine hK _ _ ?_;exact⟨λ_=>Below.refl _ _,rv,v7,_,v22,v23,_,FX,rfl,To,abK,abL,zc (λh=>TN cw),zc (λh=>⟨by simp[abR],rfl⟩),zc (λh=>⟨x6,(EM cw).2⟩),zc (λ_=>⟨x6,rfl⟩),zc (λh=>by simpa using a0G.o cw),zc (λh=>by have ag:=HST.o cw;simp[ag.1,ag.2])⟩
  ·have abO:D 17=false:=by cases h:D 17 with|false=>rfl|true=>(have:=(HST h).2;rw[a1Y] at this;cases this)
   refine afl ?_;intro K hK;refine QF 58 [.pointer none] _ rfl dQ rfl (λw' hb hbel=>hK _ _ ?_);have aB:=hb.lt;have eF:=hbel.size;refine⟨λ_=>hbel,rv,.pointer (some ⟨wx.heap.size,0,none⟩),v9,v22,v23,v24,wx.heap.size::FX,rfl,zc (To.trans (hbel.mono eg)),zc (λi hi=>?_),zc (λi hi=>List.mem_cons_of_mem _ (abL i hi)),zc (λh=>⟨(TN cw).1,(TN cw).2.cons hbel aB⟩),zc (λh=>by simpa using PK.o cw),zc (λh=>by simpa using EM.o cw),zc (λh=>by simpa using TO.o cw),zc (λ_=>⟨_,rfl,ab,eg,by simpa[abO] using hb⟩),zc (λh=>by simp[abO] at h)⟩;exact ahz
  ·obtain⟨aM,rfl⟩:=EM (a1X 14 p0);obtain⟨bx,rfl,aF,Ew,Ex⟩:=a0G (a1X 16 p0);obtain⟨ij,aj⟩:=PK aM;obtain⟨ak,hg⟩:=TN ij;refine afl ?_;intro K hK;refine Ex.zd8 (i:=0) (v:=.pointer rv) rfl rfl rfl KB rfl rfl ab (λw4 hb4 ho4=>hK _ _ ?_);refine⟨λhno=>absurd rfl hno,rv,_,v9,v22,_,v24,FX,rfl,zc (zi To ho4 Ew),zc (λi hi=>(abK i hi).imp id (λh=>⟨h.1,by rw[ho4.size];exact h.2⟩)),abL,zc (λh=>⟨ak,hg.only ho4 Ex aF⟩),zc (λh=>⟨by simp[ij],aj⟩),zc (λh=>⟨by simp[aM],rfl⟩),zc (λh=>by simpa using TO.o cw),zc (λ_=>⟨bx,rfl,aF,Ew,by simpa using hb4⟩),zc (λ_=>⟨by simp[a1X 14 (by simp[yw])],by simp[a1X 16 (by simp[yw])]⟩)⟩
 ·clear Pp TC a7K a7L Np a8U;rintro y wx⟨rv,v7,v9,v22,v23,v24,FX,rfl,To,abK,abL,TN,PK,EM,TO,a0G,HST⟩;obtain⟨bx,rfl,abS,Nb,abT⟩:=a0G rfl;obtain⟨rfl,hg⟩:=TN rfl;obtain⟨_,rfl⟩:=PK rfl;obtain⟨_,rfl⟩:=EM rfl;obtain⟨_,rfl⟩:=TO rfl;have eg:=To.size;have abU:=zc hg;have Nd:=ha_ (Blk wx bx [.pointer rv] 58) (by simpa using abT);have a6C:=zc abS;clear TN PK EM TO a0G HST hg abT abS;refine m1R ?_;refine zq ?_;have Io:=zc (uX.below To);have EX:=zc (EW.later To);by_cases az:c=0
  ·refine ajU az ?_;intro SW;obtain⟨vp,sp,np,ai,aL,aW,aat,a9J⟩:=abU.good az;obtain rfl:rv=some ⟨vp,0,none⟩:=by cases ai;rfl
   have HVI:=zc aL;have HTI:=zc aW;subst az;clear aL aW ai;have a9R:=dR;go_wp2_with fail;refine(cP 55 _ _ _ (λw'=>Blk w' bp (qd hp q (.pointer (some ⟨vp,0,none⟩)) nv cv) 62/\Only bp wx w') a9R (LZ bx w.heap.size bp hp q vv nv cv (.pointer (some ⟨vp,0,none⟩)) wx Nd EX.g1 Io.blk rfl rfl)).mono ?_;rintro e w5⟨rfl,hb5,ho5⟩;have abV:=zc EX.bel;have uY:=ha_ (∃N,xi (N++F) (N++O) w5 bp { s with vol:=some V }/\Ext O w w5/\∀i∈N,w.heap.size<=i) (by
    have aab:=A6.sub;have abW:∀i∈vp::sp::FX,i<wx.heap.size:=HTI.lt;have h1:yr (vp::sp::FX) (vp::sp::O) wx bp s hp q p ss vv nv cv:=A6.wider abV (λi hi=>by
     simp only[zau] at hi;have aR:=abW i (by simp only[zau];exact hi);rcases hi with rfl|rfl|hi
     ·exact .inr ⟨ae,aR⟩
     ·exact .inr ⟨ae,aR⟩
     ·exact(abK i hi).imp id (λh=>⟨ae,aR⟩)) (λi hi=>by simp[abL.o i hi]) (λi hi=>by simp[hi]) (λi hi=>by
      simp only[zau] at hi |-;rcases hi with rfl|rfl|hi
      ·simp
      ·simp
      ·simp[abL.o i (aab i hi)])
    have ag:=h1.store (s':={ s with vol:=some V }) hb5 ho5 rfl ⟨vp,sp,rfl,⟨np,_,HVI,HTI⟩,ab,ab⟩ h1.nam h1.cip ⟨h1.zei.hdr,λv e=>by cases e;exact HVI.zei,h1.zei.nam,h1.zei.cip⟩;refine⟨[vp,sp],⟨_,_,_,_,_,_,_,ag.narrow (λi hi=>?_) (λi hi=>?_)⟩,(Ext.of_below abV).trans (Ext.zd1 ho5 (D:=O) A6.own.1) (λi hi=>.inl hi),λi hi=>by simp at hi;rcases hi with rfl|rfl<;>omega⟩
    ·simp only[zbq,zaB,zau] at hi |-;rcases hi with rfl|rfl|hi
     ·simp
     ·simp
     ·simp[abL.o i hi]
    ·simp only[zbq,zaB,zau] at hi |-;rcases hi with rfl|rfl|hi
     ·simp
     ·simp
     ·simp[aab i hi])
   clear a9R;go_wp2;go_ret;rw[abJ.1,if_pos trivial];exact ak9 uY
  ·refine ajU az ?_;intro SW;go_wp2_with fail;refine(VQ c _ _ az).mono ?_;rintro e A4⟨rfl,rfl⟩;clear az;go_wp2;go_ret;rw[abJ.1,if_neg SW.1];exact⟨rfl,[],⟨_,_,_,_,_,_,_,A6.below EX.bel⟩,Ext.of_below EX.bel,λi hi=>by cases hi⟩


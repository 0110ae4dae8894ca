/- Laws. -/
import Derived.Test.YtkochfajaaiekaaGreatDoorY10
set_option linter.all false
set_option maxHeartbeats 16000000
set_option maxRecDepth 100000
open List renaming append_assoc->zal,append_nil->za5,cons_append->zbq,drop_eq_nil_of_le->zak,drop_left->zbs,length_cons->zaj,length_map->zaa,length_take->zam,map_append->zaD,mem_append->zaC,mem_cons->zau,mem_of_getElem?->zad,mem_singleton->zbE,take_left->zbo,take_of_length_le->zai
open Nat renaming le_refl->zab,le_trans->zat
namespace Go.Proofs.YtkochfajaaiekaaGreatDoor
open Go.Proofs.Tryz
open Go.Proofs.Tryz renaming prog->pgm
open RowKit
structure Su(w0:World)(pb:Nat)(w:World)(L:List (Nat×Lb_×TypeId)):Prop where
 only:zJ pb w0 w
 all:∀e∈L,Blk w e.1 e.2.1 e.2.2
def Su.start(pb:Nat)(w:World):Su w pb w []:=⟨zJ.refl _ _,λ_ h=>by cases h⟩
section
variable{w0 w w':World}{pb:Nat}{L:List (Nat×List Value×TypeId)}
def Su.get(h:Su w0 pb w L)(i:Nat){b:Nat}{vs:Lb_}{ty:TypeId}(hi:L[i]? = some (b,vs,ty)):Blk w b vs ty:=h.all _ (zad hi)
def Su.g0{w0 pb w b vs ty l}(h:Su w0 pb w ((b,vs,ty)::l)):Blk w b vs ty:=h.get 0 rfl
def Su.g1{w0 pb w b vs ty l a0}(h:Su w0 pb w (a0::(b,vs,ty)::l)):Blk w b vs ty:=h.get 1 rfl
def Su.g2{w0 pb w b vs ty l a0 a1}(h:Su w0 pb w (a0::a1::(b,vs,ty)::l)):Blk w b vs ty:=h.get 2 rfl
def Su.later(h:Su w0 pb w L)(hl:Below w.heap.size w w'):Su w0 pb w' L:=⟨h.only.trans (zJ.of_below hl),λe he=>(h.all e he).below hl (h.all e he).lt⟩
def Su.drew(h:Su w0 pb w L):Su w0 pb w.drew L:=⟨h.only.drew,λe he=>(h.all e he).drew⟩
def Su.add(h:Su w0 pb w L){b:Nat}{vs:Lb_}{ty:TypeId}(hb:Blk w b vs ty):Su w0 pb w ((b,vs,ty)::L) :=
 ⟨h.only,λe he=>by
  rcases zau.1 he with rfl|he
  ·exact hb
  ·exact h.all e he⟩
def Su.push(h:Su w0 pb w L){b:Nat}{vs:Lb_}{ty:TypeId}(hb:Blk w' b vs ty)(hl:Below w.heap.size w w'):Su w0 pb w' ((b,vs,ty)::L):=(h.later hl).add hb
def Su.ne(h:Su w0 pb w L):∀e∈L,e.1<w.heap.size:=λe he=>(h.all e he).lt
def Su.size(h:Su w0 pb w L):w0.heap.size<=w.heap.size:=h.only.size
def Su.change(h:Su w0 pb w L)(i:Nat){b:Nat}{us:Lb_}{ty:TypeId}(hb:Blk w' b us ty)(ho:Only b w w')(hbase:w0.heap.size<=b\/b=pb)(hne:∀e∈L.eraseIdx i,e.1≠b):Su w0 pb w' (L.set i (b,us,ty)):=by
 refine⟨?_,λe he=>?_⟩
 ·rcases hbase with hbase|rfl
  ·exact h.only.other ho hbase
  ·exact h.only.trans (zJ.zd1 ho)
 ·obtain⟨aq,aA⟩:=List.mem_iff_getElem?.1 he;rw[List.getElem?_set] at aA;by_cases ai:i=aq
  ·exact ahL
  ·rw[if_neg ai] at aA;exact(h.all e (zad aA)).only ho (hne e (jH _ _ _ _ (λh=>ai h.symm) aA))
def Su.tail{e:Nat×Lb_×TypeId}(h:Su w0 pb w (e::L)):Su w0 pb w L:=⟨h.only,λx hx=>h.all x (List.mem_cons_of_mem _ hx)⟩
def Su.zhH{e f:Nat×Lb_×TypeId}(h:Su w0 pb w (e::f::L)):Su w0 pb w L:=h.tail.tail
end
def Blk.ne'{w:World}{b c:Nat}{vs us:Lb_}{t t':TypeId}(h:Blk w b vs t)(k:Blk w c us t')(hne:t≠t'):b≠c:=by rintro rfl;unfold Blk at h k;rw[h] at k;cases k;exact hne rfl
section
attribute [local irreducible] zA zG zH zE zR
def qu.zeD{w w':World}{kp q p c:Nat}{k:zx}(h:qu w kp q p k)(ho:zJ c w w')(h1:kp≠c)(h2:q≠c)(h3:p≠c):qu w' kp q p k :=
 ⟨⟨h.tab.boxes.zeD ho h3,h.tab.tab.zeD ho h2⟩,h.fit,h.blk.zeD ho h1⟩
def bS(ao:OA)(n cap:Nat)(b:La_)(w:World)(hn:b.length=n)(hnb:n<=1000)(hl:zr w ao (b.map B)):C_b 177 #[.slice ao n cap] w (.agg ((block (kz b 128 16)).map B).toArray):=by refine af6 ?_;intro Nl A0;refine aeC ?_;intro EW;obtain⟨er,et⟩:=n_ (block (kz b 128 16));have Pn:=s_ et;have Io:=ha_ (er.length=16) (by rw[et];exact zI _);rw[<-et];clear hn hl et;go_enter func177,ntmps177;go_wp2_with (refine aqB ?_);refine am7 ?_;intro A4 aF sy EW aB;generalize M1:w.heap.size=MN at*;have IZ:=zc M1;clear M1;go_wp2_with fail;refine(Vw ao n cap 16 128 b _ Nl ae ae ae (A0.below (EW.old IZ))).mono ?_;rintro ai A4⟨aK,rfl,I4,sy⟩;obtain⟨Ny,oF,rfl,az,_,aR⟩:=zz I4;refine aex ?_;intro EW;have A0:=zc aR;clear aR;simp only[id];go_wp2_with fail;refine(xj Ny _ oF (kz b 128 16) _ (by rw[JW,Nl.o]) A0).mono ?_;rintro ai A4⟨rfl,sy⟩;refine aex ?_;intro EW;rw[Pn.1];clear az;go_wp2_with (refine EW.g0.zdP rfl rfl rfl rfl zd ga (by rw[zaa];exact Io) (zj _) ?_);intro A4 aF oE;have Eu:=zi EW.bel oE (zab _);go_wp2;refine aF.result rfl rfl rfl zd (by rw[zaa];exact Io) ⟨rfl,?_⟩;exact ah7
def pB(kp q p:Nat)(k:zx)(pv:Value)(ua va:OA)(nu nv uc vc:Nat)(u v x y:La_)(w:World)(hk:qu w kp q p k)(hnu:u.length=nu)(hnv:v.length=nv)(zht:nu<=16)(ziZ:nv<16)(hu:zr w ua (u.map B))(hv:zr w va (v.map B)):C_b 158 #[.agg (yL pv (.slice ua nu uc) (.slice va nv vc) x y).toArray,pa_ kp] w (.agg ((wy k u v).map B).toArray):=by
 refine ajJ hk hnu hnv ?_;intro MM a1t a1u;have Pu:=zc hu;have OS:=zc hv;refine aeC ?_;intro EW;have Ox:=ha_ ((wy k u v).length=16) (by unfold wy;split;exact ze 16;split;exact zdQ _;exact yU _ _ _ _);obtain⟨Tz,Ty⟩:=n_ (yL pv (.slice ua nu uc) (.slice va nv vc) x y);have a1w:=t_ Ty;obtain⟨iD,a1D⟩:=n_ (wy k u v);have a0e:=s_ a1D;rw[<-a1D] at Ox;rw[<-Ty,<-a1D];clear hk hnu hnv hu hv Ty a1D;have a1E:∀(fn:Fn)(first cap:Array Value)(w:World),(Instr.makeFunc fn first cap).run pgm w=.ok (.func fn first cap) w:=λ_ _ _ _=>rfl;go_enter func158,ntmps158;go_wp2_with (refine aqI ?_);refine am7 ?_;intro A4 aF sy EW aB;go_wp2_with (refine aqB ?_);refine arh ?_;intro w2 aF sy EW aB;generalize M1:w.heap.size=MN at*;generalize A4.heap.size=Nh at*;have IZ:=zc M1;clear M1;have a1n:=EW.g1.cell 1 (.slice ua nu uc) n3;by_cases ag:nu=0
 ·have aN:((nu:Int)==0)=true:=bq;have A3:=ha_ (iD=zg 16/\True) ⟨by rw[<-a0e.1];unfold wy;rw[if_pos (by rw[a1t.o];exact ag)],trivial⟩;clear ag;go_wp2_with (refine EW.g0.zdP rfl rfl rfl (cs:=(zg 16).map B) rfl zd ga ga (zj _) ?_);intro Ev Ew oE;have Eu:=zi EW.bel oE ae;go_wp2;refine Ew.result rfl rfl rfl zd ga ⟨by rw[A3.1],?_⟩;exact ah7
 ·have aN:((nu:Int)==0)=false:=by simp;omega
  by_cases aM:nu=16
  ·have eK:((nu:Int)==16)=true:=bq;have EM:=ha_ (plusB [zeF k 0 4 (block u),zeF k 0 5 (block (kz v 128 16))]=iD/\True) ⟨by rw[<-a0e.1];unfold wy;rw[if_neg (by rw[a1t.o];exact ag),if_pos (by rw[a1t.o];exact aM)],trivial⟩;have a1n:=λ(z:zL w2.drew)=>((EW.drew.later z.later).get 1 rfl).cell 1 (.slice ua nu uc) n3;have a1B:=λ(z:zL w2.drew)=>((EW.drew.later z.later).get 1 rfl).cell 2 (.slice va nv vc) n3;clear ag aM;go_wp2_with fail;refine zp [0,1,2,5,6,7,8,3,4,9,10,11,12,13] e0 e0 ?_;rintro IX rfl;refine ak5 EW ?_;intro EW;clear a1n a1B;refine Pm ?_;intro K hK;refine(xj ua nu uc u _ a1t (Pu.below (EW.old IZ))).mono ?_;rintro ai Ev⟨rfl,sy⟩;refine amU ?_;intro EW;clear hK K;refine Pm ?_;intro K hK;refine(JS kp q p 0 4 k (block u) _ (MM.later (EW.old IZ)) ae ae (zI _)).mono ?_;rintro ai MF⟨rfl,sy⟩;refine amU ?_;intro EW;clear hK K;refine Pm ?_;intro K hK;refine(bS va nv vc v _ a1u ae (OS.below (EW.old IZ))).mono ?_;rintro ai A4⟨rfl,sy⟩;refine amU ?_;intro EW;clear hK K;refine Pm ?_;intro K hK;refine(JS kp q p 0 5 k (block (kz v 128 16)) _ (MM.later (EW.old IZ)) ae ae (zI _)).mono ?_;rintro ai Na⟨rfl,sy⟩;refine amU ?_;intro EW;clear hK K;have TO:=zc (yU k 0 4 (block u));have a1F:=zc (yU k 0 5 (block (kz v 128 16)));generalize zeF k 0 4 (block u)=aj at*;generalize zeF k 0 5 (block (kz v 128 16))=ak at*;refine Sm ?_;intro K hK;refine qD 209 144 16 2 _ [aj.map B,ak.map B] rfl rfl underlying209 zV rfl ae rfl ae ae (by simp[TO.o,a1F.o]) ?_;intro A4 aF sy;refine aex ?_;intro EW;have uY:=ha_ (y7 16 A4 (some ⟨Na.heap.size,0,none⟩) [aj,ak]) ⟨by simp[TO.o,a1F.o],k5⟩;refine hK _ _ sy ?_;clear hK K;go_simp;refine Pm ?_;intro K hK;refine(ql (some ⟨Na.heap.size,0,none⟩) 2 2 [aj,ak] _ rfl ae uY).mono ?_;rintro ai A4⟨rfl,sy⟩;refine aex ?_;intro EW;rw[EM.1];refine ame ?_;clear hK K;refine aeA ?_;intro K hK;refine EW.g0.zd4 rfl rfl rfl zd ga nb (zj _) (λw10 zfk ze2=>hK _ _ ?_);clear hK K;have Eu:=zi EW.bel ze2 ae;refine aeS ?_;go_wp2;refine zfk.result rfl rfl rfl zd nb ⟨rfl,?_⟩;exact ah7
  ·have eK:((nu:Int)==16)=false:=bq;have EM:=ha_ (zeF k 0 4 (block (kz u 128 16))=iD/\True) ⟨by rw[<-a0e.1];unfold wy;rw[if_neg (by rw[a1t.o];exact ag),if_neg (by rw[a1t.o];exact aM)],trivial⟩;clear ag aM;go_wp2_with fail;refine(bS ua nu uc u _ a1t ae (Pu.below (EW.old IZ))).mono ?_;rintro ai IX⟨rfl,sy⟩;refine aex ?_;intro EW;go_wp2_with fail;refine(JS kp q p 0 4 k (block (kz u 128 16)) _ (MM.later (EW.old IZ)) ae ae (zI _)).mono ?_;rintro ai Ev⟨rfl,sy⟩;rw[EM.1];refine aex ?_;intro EW;go_wp2_with (refine EW.g0.zdP rfl rfl rfl rfl zd ga nb (zj _) ?_);intro MF aF oE;have M6:=zi EW.bel oE ae;go_wp2;refine aF.result rfl rfl rfl zd nb ⟨rfl,?_⟩;rw[IZ.o];exact M6
def ZY(A M R:La_)(tl:Lb_):Lb_:=(A++M++R).map B++tl
def fT{A a b R:La_}{tl:Lb_}{o:Nat}(ho:A.length=o)(ha:a.length=16):((ZY A (a++b) R tl).drop o).take 16=a.map B:=by subst ho;unfold ZY;rw[zal A,zaD,zal,show A.length=(A.map B).length by simp,zbs,zal a,zaD,zal,show(16:Nat)=(a.map B).length by simp[ha],zbo]
def K9{A a b R:La_}{tl:Lb_}{o:Nat}(ho:A.length=o)(ha:a.length=16)(hb:b.length=16):((ZY A (a++b) R tl).drop (o+16)).take 16=b.map B:=by subst ho;unfold ZY;rw[show A++(a++b)++R=(A++a)++(b++R) by simp,zaD,zal,show A.length+16=((A++a).map B).length by simp[ha],zbs,zaD,zal,show(16:Nat)=(b.map B).length by simp[hb],zbo]
def pD{A M C R:La_}{tl:Lb_}{o:Nat}(ho:A.length=o)(h:C.length=M.length):(ZY A M R tl).take o++C.map B++(ZY A M R tl).drop (o+(C.map B).length)=ZY A C R tl:=by
 subst ho;unfold ZY;have ai:((A++M++R).map B++tl).take A.length=A.map B:=by
  rw[zal A,zaD,zal,show A.length=(A.map B).length by simp,zbo]
 have aj:((A++M++R).map B++tl).drop (A.length+(C.map B).length)=R.map B++tl:=by
  rw[zaD,zal,show A.length+(C.map B).length=((A++M).map B).length by simp[h],zbs]
 rw[ai,aj,zaD,zaD];simp[zal]
def pE{A M R:La_}{tl:Lb_}(h:M.length=32):A.length+32<=(ZY A M R tl).length:=by unfold ZY;simp[h]
def Bb{α:Type}{l:List α}{i:Nat}{x:α}(h:l[i]? = some x):l.drop i=x::l.drop (i+1):=by obtain⟨aR,aJ⟩:=List.getElem?_eq_some_iff.1 h;rw[List.drop_eq_getElem_cons aR,aJ]
def Wf(k:zx):∀(ps:xI)(n:Nat)(p:La_×La_),yE k n (ps++[p])=yE k n ps++[(wOf k (n+ps.length) p,xOf k (n+ps.length) p)]
 | [],n,p=>by simp[yE]
 | q::ps,n,p=>by
  simp only[zbq,yE,Wf k ps (n+1) p,zaj];rw[show n+1+ps.length=n+(ps.length+1) by omega]
def vD:∀(ps qs:xI),ya (ps++qs)=ya ps++ya qs
 | [],_=>rfl
 | p::ps,qs=>by simp only[zbq,ya,vD ps qs,zal]
def FH(kp q p:Nat)(k:zx)(pb np cp:Nat)(ps:xI)(tl:Lb_)(uv vv:Value)(x y:La_)(w:World)(hk:qu w kp q p k)(hnp:ps.length=np)(hf:∀r∈ps,qJ r)(hp:Blk w pb ((ya ps).map B++tl) 267)(hb:np<=900):Ca_ 157 #[.agg (yL (.slice (some ⟨pb,0,none⟩) np cp) uv vv x y).toArray,.pointer (some ⟨kp,0,none⟩)] w λe w'=>e=.returned (.agg ((js k 0 (zg 16) ps).map B).toArray)/\Blk w' pb ((ya (yE k 0 ps)).map B++tl) 267/\zJ pb w w':=by
 have Ep:kp≠pb:=hk.blk.ne' hp bd;have a1G:q≠pb:=hk.tab.tab.ne' hp bd;have a1H:p≠pb:=hk.tab.boxes.ne' hp bd;refine ajJ hk hnp hf ?_;intro MM a1s I3;have a1I:=hp.lt;have EW:=zc ((Su.start pb w).add hp);obtain⟨Tz,Ty⟩:=n_ (yL (.slice (some ⟨pb,0,none⟩) np cp) uv vv x y);have a1w:=t_ Ty;obtain⟨a1J,a1K⟩:=n_ (js k 0 (zg 16) ps);have a0f:=s_ a1K;rw[<-Ty,<-a1K];clear hk hnp hf hp Ty a1K;go_enter func157,ntmps157;go_wp2_with (refine aqI ?_);refine ast EW ?_;intro A4 sy EW aB;go_wp2_with (refine aqB ?_);refine ast EW ?_;intro Ev sy EW aB;go_wp2_with (refine aqB ?_);refine ast EW ?_;intro IX sy EW aB;generalize M1:w.heap.size=MN at*;generalize A4.heap.size=Nh at*;generalize Ev.heap.size=R1 at*;have IZ:=zc M1;clear M1;have az:=EW.g2.cell 0 (.slice (some ⟨pb,0,none⟩) np cp) n3;go_wp2;go_loopw [12] (λc wr=>∃(i:Nat)(sum:La_),i<=np/\c=.int .i64 i/\Hid (sum.length=16)/\Hid (js k i sum (ps.drop i)=a1J/\True)/\Hid (Su w pb wr [(R1,sum.map B,144),(Nh,(zg 16).map B,144),(MN,Tz,248),(pb,(ya (yE k 0 (ps.take i)++ps.drop i)).map B++tl,267)])) (λc _=>np-(intOf c).toNat);case atStart=>exact⟨0,zg 16,ae,rfl,zc (ze 16),a0f,EW⟩
 case round =>
  clear EW az;obtain⟨i,sum,aO,rfl,EZ,EM,EW⟩:=hrel;have Pb:=l_ sum 16 EZ;have eI:=EW.g0.lt;by_cases aB:i<np
  ·refine arp ?_;intro eT ax a1y ah a0N a1L uX a1M EF;have a0F:(ya (yE k 0 (ps.take i))).length=i*32:=by
    rw[Zh _ (KQ k _ _),kM,zam,a1s.o];omega
   have aD:ya (yE k 0 (ps.take (i+1))++ps.drop (i+1))=ya (yE k 0 (ps.take i))++(wOf k i (eT,ax)++xOf k i (eT,ax))++ya (ps.drop (i+1)):=by
    rw[K8 a1y,Wf,zam,a1s.o,show 0+min i np=i by omega,vD,ZT]
   have he:=EM.1;rw[ah] at he;have EM:=ha_ (js k (i+1) (plusB [sum,xOf k i (eT,ax)]) (ps.drop (i+1))=a1J/\True) ⟨he,trivial⟩;have eg:=EW.o;rw[ah,vD,show ya ((eT,ax)::ps.drop (i+1))=eT++ax++ya (ps.drop (i+1)) from rfl,<-zal] at eg;refine ajU aD ?_;intro Nl;obtain⟨A,NJ⟩:=n_ (ya (yE k 0 (ps.take i)));obtain⟨R,Em⟩:=n_ (ya (ps.drop (i+1)));rw[<-NJ,<-Em] at eg Nl;rw[<-NJ] at a0F;have a0G:=zc a0F;have EW:=ha_ (Su w pb wr [(R1,sum.map B,144),(Nh,(zg 16).map B,144),(MN,Tz,248),(pb,ZY A (eT++ax) R tl,267)]) eg;clear a1y ah a0N a0F aD he eg NJ Em;obtain⟨i1,aO⟩:=n_ (i+1);have a1N:(i:Int)+1=(i1:Int):=ae;have ig:i1<=1000:=ae;have MY:=ha_ (plusB [eT,zeF k 1 i1 ax]=wOf k i (eT,ax)/\True) ⟨by rw[aO];rfl,trivial⟩;have NK:=t_ aO;clear aO;have az:=λ(z:zL wr.drew)=>((EW.drew.later z.later).get 2 rfl).cell 0 (.slice (some ⟨pb,0,none⟩) np cp) n3;have a1O:=zc EW.ne;have a1P:=EW.size;go_wp2_with fail;refine xq [0,1,2,3,4,5,6,7,8,9,10,11,12,13,14] [15,16,17] [19] [zT.var 18 7 144 ((zg 16).map B)] e0 e0 ?_;rintro IX rfl;have EW:=zc EW.drew;iterate 5 refine m10 ?_
   refine z7 (Blk.zea (EW.get 3 rfl) (i*32) 16 _ (by exact fT a0G a1L)) (EW.get 3 rfl).lt zd a1M rfl rfl rfl (λK hK=>?_);refine ali ?_;clear hK K;iterate 8 refine m10 ?_
   refine z7 (Blk.zea (EW.get 3 rfl) (i*32+16) 16 _ (by exact K9 a0G a1L uX)) (EW.get 3 rfl).lt zd EF rfl rfl rfl (λK hK=>?_);refine ali ?_;clear hK K;clear az;refine xF ⟨?_,?_,zab _⟩
   ·intro ib hf;exact aj7
   refine zQ rfl rfl (λuz wa5 hla K hK=>?_);refine ags ?_;intro EW;refine(JS kp q p 1 i1 k ax _ (MM.zeD EW.only Ep a1G a1H) ae ig uX).mono ?_;rintro e A4⟨rfl,sy⟩;refine amX ?_;intro EW;clear hK K hla;have P3:=zc (yU k 1 i1 ax);generalize zeF k 1 i1 ax=a1Q at*;refine zQ rfl rfl (λuz wa6 hla K hK=>?_);refine qD 209 144 16 2 _ [eT.map B,a1Q.map B] rfl rfl underlying209 zV rfl ae rfl ae ae nr ?_;intro MF hb sy;have EW:=zc (EW.later (hla.trans sy));refine hK _ _ sy ?_;have uY:=ha_ (y7 16 MF (some ⟨wa6.heap.size,0,none⟩) [eT,a1Q]) ⟨nr,nx⟩;clear hK K hla hb;go_simp;refine ak2 ?_;intro uz wa7 hla K hK;refine(ql (some ⟨wa6.heap.size,0,none⟩) 2 2 [eT,a1Q] _ rfl ae (uY.below hla)).mono ?_;rintro e A4⟨rfl,sy⟩;have EW:=zc (EW.later (hla.trans sy));rw[MY.1];refine aeN ?_;clear hK K hla;have Oc:=zc (KM k i (eT,ax));have Oi:=zc (KN k i (eT,ax));have I5:=ha_ (plusB [ax,zeF k 0 0 (wOf k i (eT,ax))]=xOf k i (eT,ax)/\True) ⟨rfl,trivial⟩;generalize wOf k i (eT,ax)=Tc at*;generalize xOf k i (eT,ax)=a1a at*;refine asi EW ?_;intro bx8 wb8 hbx8 EW;refine aeA ?_;intro K hK;refine EW.g0.zd4 rfl rfl rfl zd ev (by rw[zaa];exact Oc) (zj _) (λw8 hb ho=>hK _ _ ?_);clear hK K;have EW:=zc (EW.change 0 hb ho (.inl ae) (λe he=>by have:=a1O.o e he;omega));clear hb ho a1P;refine aeS ?_;have eI:=EW.g0.lt;have az:=λ(z:zL w8.drew)=>((EW.drew.later z.later).get 3 rfl).cell 0 (.slice (some ⟨pb,0,none⟩) np cp) n3;have a1R:=l_ Tc 16 Oc;have a1O:=zc EW.ne;have a1P:=EW.size;go_wp2_with fail;refine xq [0,1,2,3,4,5,6,7] [8,9,10] [12] [zT.var 11 8 144 ((zg 16).map B)] e0 e0 ?_;rintro A4 rfl;have EW:=zc EW.drew;iterate 5 refine m10 ?_
   refine z7 (Blk.zea (EW.get 4 rfl) (i*32+16) 16 _ (by exact K9 a0G a1L uX)) (EW.get 4 rfl).lt zd EF rfl rfl rfl (λK hK=>?_);refine ali ?_;clear hK K;refine m10 ?_;refine z7 EW.g0.range EW.g0.lt zd a1R rfl rfl rfl (λK hK=>?_);refine ali ?_;clear hK K;clear az;refine xF ⟨?_,?_,zab _⟩
   ·intro ib hf;exact aj7
   refine zQ rfl rfl (λuz wa10 hla K hK=>?_);refine ags ?_;intro EW;refine(JS kp q p 0 0 k Tc _ (MM.zeD EW.only Ep a1G a1H) ae ae Oc).mono ?_;rintro e A4⟨rfl,sy⟩;refine amX ?_;intro EW;clear hK K hla;have a1S:=zc (yU k 0 0 Tc);generalize zeF k 0 0 Tc=a1T at*;refine zQ rfl rfl (λuz wa11 hla K hK=>?_);refine qD 209 144 16 2 _ [ax.map B,a1T.map B] rfl rfl underlying209 zV rfl ae rfl ae ae (by simp[uX.o,a1S.o]) ?_;intro A4 hb sy;have EW:=zc (EW.later (hla.trans sy));refine hK _ _ sy ?_;have uY:=ha_ (y7 16 A4 (some ⟨wa11.heap.size,0,none⟩) [ax,a1T]) ⟨by simp[uX.o,a1S.o],nx⟩;clear hK K hla hb;go_simp;refine ak2 ?_;intro uz wa12 hla K hK;refine(ql (some ⟨wa11.heap.size,0,none⟩) 2 2 [ax,a1T] _ rfl ae (uY.below hla)).mono ?_;rintro e A4⟨rfl,sy⟩;have EW:=zc (EW.later (hla.trans sy));rw[I5.1];refine aeN ?_;clear hK K hla;refine asi EW ?_;intro zkZ wb13 hbx13 EW;refine aeA ?_;intro K hK;refine EW.g0.zd4 rfl rfl rfl zd ev (by rw[zaa];exact Oi) (zj _) (λw13 hb ho=>hK _ _ ?_);clear hK K;have EW:=zc (EW.change 0 hb ho (.inl ae) (λe he=>by have:=a1O.o e he;omega));clear hb ho a1P;refine aeS ?_;have a1U:=l_ a1a 16 Oi;have IS:=K7 Tc a1a Oc Oi;have az:=(EW.get 4 rfl).cell 0 (.slice (some ⟨pb,0,none⟩) np cp) n3;have ML:=EW.size;go_wp2_with (first|(refine EW.g1.zdS rfl rfl rfl zd a1R ?_)|(refine EW.g0.zdS rfl rfl rfl zd a1U ?_)|(refine qQ 267 _ _ _ rfl rfl rfl IS ?_)|(refine(EW.get 5 rfl).zgf (o:=i*32) (cs:=Tc.map B++a1a.map B) rfl rfl rfl rfl Zr (by simp[Oc.o,Oi.o]) o0 akL ?_));intro A4 Ni Ro;have Ni:Blk A4 pb (ZY A (Tc++a1a) R tl) 267:=by
    rw[<-pD (A:=A) (M:=eT++ax) (C:=Tc++a1a) (R:=R) (tl:=tl) a0G.o (by simp[a1L.o,uX.o,Oc.o,Oi.o])];simpa[zal] using Ni
   have EW:=ha_ (Su w pb A4 [(zkZ,a1a.map B,144),(bx8,Tc.map B,144),(R1,sum.map B,144),(Nh,(zg 16).map B,144),(MN,Tz,248),(pb,ZY A (Tc++a1a) R tl,267)]) (EW.change 5 Ni Ro (.inr rfl) bq);clear Ni Ro IS az;have Om:=zc (zdQ [sum,a1a]);go_wp2_with (first|(refine EW.g2.zdS rfl rfl rfl zd Pb ?_)|(refine EW.g0.zdS rfl rfl rfl zd a1U ?_)|(refine qL 209 144 16 2 _ [sum.map B,a1a.map B] rfl rfl rfl underlying209 zV rfl ae rfl ae ae (by simp[EZ.o,Oi.o]) ?_));intro Ev hb sy;refine aex ?_;intro EW;have uY:=ha_ (y7 16 Ev (some ⟨A4.heap.size,0,none⟩) [sum,a1a]) ⟨by simp[EZ.o,Oi.o],nx⟩;clear hb;go_wp2_with fail;refine(ql (some ⟨A4.heap.size,0,none⟩) 2 2 [sum,a1a] _ rfl ae uY).mono ?_;refine aio ?_;intro A4 sy EW;generalize plusB [sum,a1a]=ej at*;go_wp2_with (refine EW.g2.zdP rfl rfl rfl rfl zd Pb hP (zj _) ?_);intro A4 Rq Rs;have EW:=ha_ (Su w pb A4 [(zkZ,a1a.map B,144),(bx8,Tc.map B,144),(R1,ej.map B,144),(Nh,(zg 16).map B,144),(MN,Tz,248),(pb,ZY A (Tc++a1a) R tl,267)]) (EW.change 2 Rq Rs (.inl o2) bq);have EW:=ha_ (Su w pb A4 [(R1,ej.map B,144),(Nh,(zg 16).map B,144),(MN,Tz,248),(pb,(ya (yE k 0 (ps.take (i+1))++ps.drop (i+1))).map B++tl,267)]) (by rw[Nl.1];exact EW.zhH);clear Rq Rs;exact aht
  ·obtain rfl:i=np:=ae;have EM:=ha_ (sum=a1J/\True) ⟨o3,trivial⟩;have EW:=ha_ (Su w pb wr [(R1,sum.map B,144),(Nh,(zg 16).map B,144),(MN,Tz,248),(pb,(ya (yE k 0 ps)).map B++tl,267)]) (by
    have:=EW.o
    rwa [zak na,zai na,za5] at this)
   go_wp2_with (first|(refine EW.g0.zdS rfl rfl rfl zd Pb ?_)|(refine EW.g1.zdP rfl rfl rfl rfl zd ga Pb (zj _) ?_));intro MF aF oE;have EW:=zc (EW.change 1 aF oE (.inl o2) bq);have Ih:=zc (EW.get 3 rfl);go_wp2;refine aF.result rfl rfl rfl zd Pb ⟨by rw[EM.1],Ih,EW.only⟩
def QF{P:Program}{w:World}{o:Oper}{a:Act}{K:Act->World->Prop}{Q:Exit->Act->World->Prop}(t:TypeId)(vs:Lb_)(z:Value)(ho:o.op=.alloc t)(hz:(P.info? t).map (·.zero)=some (some z))(hv:z.cells=vs.toArray)(k:∀w',Blk w' w.heap.size vs t->Below w.heap.size w w'->K (a.put o.dst (.pointer (some ⟨w.heap.size,0,none⟩))) w'):o.wp P a w K Q:=by
 refine ahw ?_;intro aQ;cases hq:P.info? t with
 | none=>rw[hq] at hz;cases hz
 | some x =>
  rw[hq] at hz;have aH:x.zero=some z:=by simpa using hz
  unfold Oper.wp;simp[execOp,ho,Instr.alloc,zeroValue,typeInfo,hq,aH,newVar,newRow,hv];exact aQ
structure BI(D:Nat->Bool)(base:Nat)(w:World)(v10 v11 v31 v32 v40 v41:Value)(a b E Y U:La_):Prop where
 r7:D 7=true->∃n,v31=.slice (some ⟨n,0,none⟩) 2 2/\y7 16 w (some ⟨n,0,none⟩) [a,E]
 r16:D 16=true->∃n,v40=.slice (some ⟨n,0,none⟩) 2 2/\y7 16 w (some ⟨n,0,none⟩) [b,E]
 r8:D 8=true->v32=.agg (Y.map B).toArray
 r17:D 17=true->v41=.agg (U.map B).toArray
 r18:D 18=true->∃n,v10=.pointer (some ⟨n,0,none⟩)/\base<=n/\Blk w n ((zg 16).map B) 144
 r19:D 19=true->∃n,v11=.pointer (some ⟨n,0,none⟩)/\base<=n/\Blk w n ((zg 16).map B) 144
 ne:D 18=true->D 19=true->v10≠v11
section
variable{D:Nat->Bool}{base:Nat}{w w':World}{v10 v11 v31 v32 v40 v41:Value}{a b E Y U:List UInt8}
def BI.nought(v10 v11 v31 v32 v40 v41:Value):BI (λ_=>false) base w v10 v11 v31 v32 v40 v41 a b E Y U :=
 ⟨λh=>ds,λh=>ds,λh=>ds,λh=>ds,λh=>ds,λh=>ds,λh=>ds⟩
def BI.later(h:BI D base w v10 v11 v31 v32 v40 v41 a b E Y U)(hb:Below w.heap.size w w'):BI D base w' v10 v11 v31 v32 v40 v41 a b E Y U :=
 ⟨λx=>by obtain⟨n,e,r⟩:=h.r7 x;exact⟨n,e,r.below hb⟩,λx=>by obtain⟨n,e,r⟩:=h.r16 x;exact⟨n,e,r.below hb⟩,h.r8,h.r17,
  λx=>by obtain⟨n,e,r,s⟩:=h.r18 x;exact⟨n,e,r,s.below hb s.lt⟩,λx=>by obtain⟨n,e,r,s⟩:=h.r19 x;exact⟨n,e,r,s.below hb s.lt⟩,h.ne⟩
def BI.s7(h:BI D base w v10 v11 v31 v32 v40 v41 a b E Y U){n:Nat}(hr:y7 16 w (some ⟨n,0,none⟩) [a,E]):BI (λj=>D j||j==7) base w v10 v11 (.slice (some ⟨n,0,none⟩) 2 2) v32 v40 v41 a b E Y U :=
 ⟨λ_=>⟨n,rfl,hr⟩,λx=>h.r16 o6,λx=>h.r8 o6,λx=>h.r17 o6,λx=>h.r18 o6,λx=>h.r19 o6,λx y=>h.ne o6 o7⟩
def BI.s16(h:BI D base w v10 v11 v31 v32 v40 v41 a b E Y U){n:Nat}(hr:y7 16 w (some ⟨n,0,none⟩) [b,E]):BI (λj=>D j||j==16) base w v10 v11 v31 v32 (.slice (some ⟨n,0,none⟩) 2 2) v41 a b E Y U :=
 ⟨λx=>h.r7 o6,λ_=>⟨n,rfl,hr⟩,λx=>h.r8 o6,λx=>h.r17 o6,λx=>h.r18 o6,λx=>h.r19 o6,λx y=>h.ne o6 o7⟩
def BI.s8(h:BI D base w v10 v11 v31 v32 v40 v41 a b E Y U):BI (λj=>D j||j==8) base w v10 v11 v31 (.agg (Y.map B).toArray) v40 v41 a b E Y U :=
 ⟨λx=>h.r7 o6,λx=>h.r16 o6,λ_=>rfl,λx=>h.r17 o6,λx=>h.r18 o6,λx=>h.r19 o6,λx y=>h.ne o6 o7⟩
def BI.s17(h:BI D base w v10 v11 v31 v32 v40 v41 a b E Y U):BI (λj=>D j||j==17) base w v10 v11 v31 v32 v40 (.agg (U.map B).toArray) a b E Y U :=
 ⟨λx=>h.r7 o6,λx=>h.r16 o6,λx=>h.r8 o6,λ_=>rfl,λx=>h.r18 o6,λx=>h.r19 o6,λx y=>h.ne o6 o7⟩
def BI.s18(h:BI D base w v10 v11 v31 v32 v40 v41 a b E Y U)(hB:base<=w.heap.size)(hbl:Blk w' w.heap.size ((zg 16).map B) 144)(hb:Below w.heap.size w w'):BI (λj=>D j||j==18) base w' (.pointer (some ⟨w.heap.size,0,none⟩)) v11 v31 v32 v40 v41 a b E Y U:=by have ag:=h.later hb;refine⟨λx=>ag.r7 o6,λx=>ag.r16 o6,λx=>ag.r8 o6,λx=>ag.r17 o6,λ_=>⟨_,rfl,hB,hbl⟩,λx=>ag.r19 o6,λ_ y=>?_⟩;obtain⟨Ep,ai,_,ej⟩:=h.r19 o7;rw[ai];intro oI;have:=ej.lt;simp at oI;try omega
def BI.s19(h:BI D base w v10 v11 v31 v32 v40 v41 a b E Y U)(hB:base<=w.heap.size)(hbl:Blk w' w.heap.size ((zg 16).map B) 144)(hb:Below w.heap.size w w'):BI (λj=>D j||j==19) base w' v10 (.pointer (some ⟨w.heap.size,0,none⟩)) v31 v32 v40 v41 a b E Y U:=by have ag:=h.later hb;refine⟨λx=>ag.r7 o6,λx=>ag.r16 o6,λx=>ag.r8 o6,λx=>ag.r17 o6,λx=>ag.r18 o6,λ_=>⟨_,rfl,hB,hbl⟩,λx _=>?_⟩;obtain⟨Ep,ai,_,ej⟩:=h.r18 o6;rw[ai];intro oI;have:=ej.lt;simp at oI;try omega
end
def J0(k:zx)(z:La_):∀(ps:xI)(n:Nat)(p:La_×La_),ym k z n (ps++[p])=ym k z n ps++[(Zg k z (n+ps.length) p,kY k z (n+ps.length) p)]
 | [],n,p=>by simp[ym]
 | q::ps,n,p=>by
  simp only[zbq,ym,J0 k z ps (n+1) p,zaj];rw[show n+1+ps.length=n+(ps.length+1) by omega]
def Ch(kp q p:Nat)(k:zx)(pb np cp:Nat)(ps:xI)(tl:Lb_)(uv vv:Value)(x y z:La_)(w:World)(hk:qu w kp q p k)(hnp:ps.length=np)(hf:∀r∈ps,qJ r)(hz:z.length=16)(hp:Blk w pb ((ya ps).map B++tl) 267)(hb:np<=900):Ca_ 159 #[.agg (yL (.slice (some ⟨pb,0,none⟩) np cp) uv vv x y).toArray,.pointer (some ⟨kp,0,none⟩),.agg (z.map B).toArray] w λe w'=>e=.returned (.agg ((qZ k z 0 (zg 16) ps).map B).toArray)/\Blk w' pb ((ya (ym k z 0 ps)).map B++tl) 267/\zJ pb w w':=by
 have Ep:kp≠pb:=hk.blk.ne' hp bd;have a1G:q≠pb:=hk.tab.tab.ne' hp bd;have a1H:p≠pb:=hk.tab.boxes.ne' hp bd;refine ajJ hk hnp hf ?_;intro MM a1s I3;have Ts:=zc hz;have a2c:=l_ z 16 hz;have a1I:=hp.lt;have EW:=zc ((Su.start pb w).add hp);obtain⟨Tz,Ty⟩:=n_ (yL (.slice (some ⟨pb,0,none⟩) np cp) uv vv x y);have a1w:=t_ Ty;obtain⟨a1J,a1K⟩:=n_ (qZ k z 0 (zg 16) ps);have a0f:=s_ a1K;rw[<-Ty,<-a1K];clear hk hnp hf hp Ty a1K hz;go_enter func159,ntmps159;go_wp2_with (refine aqI ?_);refine ast EW ?_;intro A4 hbel EW aB;go_wp2_with (refine zh 144 _ (z.map B) _ rfl rfl rfl rfl ?_);refine ast EW ?_;intro Ev hbel EW aB;go_wp2_with (refine aqB ?_);refine ast EW ?_;intro IX hbel EW aB;go_wp2_with (refine aqB ?_);refine ast EW ?_;intro MF hbel EW MJ;generalize M1:w.heap.size=MN at*;generalize A4.heap.size=Nh at*;generalize Ev.heap.size=R1 at*;generalize IX.heap.size=R2 at*;have IZ:=zc M1;clear M1;have az:=(EW.get 3 rfl).cell 0 (.slice (some ⟨pb,0,none⟩) np cp) n3;go_wp2;go_loopw [16] (λc wr=>∃(i:Nat)(sum:La_),i<=np/\c=.int .i64 i/\Hid (sum.length=16)/\Hid (qZ k z i sum (ps.drop i)=a1J/\True)/\Hid (Su w pb wr [(R2,sum.map B,144),(R1,(zg 16).map B,144),(Nh,z.map B,144),(MN,Tz,248),(pb,(ya (ym k z 0 (ps.take i)++ps.drop i)).map B++tl,267)])) (λc _=>np-(intOf c).toNat);case atStart=>exact⟨0,zg 16,ae,rfl,zc (ze 16),a0f,EW⟩
 case round =>
  clear EW az;obtain⟨i,sum,aO,rfl,EZ,EM,EW⟩:=hrel;have Pb:=l_ sum 16 EZ;have eI:=EW.g0.lt;by_cases aB:i<np
  ·refine arp ?_;intro eT ax a1y ah a0N a1L uX a1M EF;have a0F:(ya (ym k z 0 (ps.take i))).length=i*32:=by
    rw[Zh _ (Z1 k z _ _),kZ,zam,a1s.o];omega
   have aD:ya (ym k z 0 (ps.take (i+1))++ps.drop (i+1))=ya (ym k z 0 (ps.take i))++(Zg k z i (eT,ax)++kY k z i (eT,ax))++ya (ps.drop (i+1)):=by
    rw[K8 a1y,J0,zam,a1s.o,show 0+min i np=i by omega,vD,ZT]
   have he:=EM.1;rw[ah] at he;have EM:=ha_ (qZ k z (i+1) (plusB [sum,yOf k z i (eT,ax)]) (ps.drop (i+1))=a1J/\True) ⟨he,trivial⟩;have eg:=EW.o;rw[ah,vD,show ya ((eT,ax)::ps.drop (i+1))=eT++ax++ya (ps.drop (i+1)) from rfl,<-zal] at eg;refine ajU aD ?_;intro Nl;obtain⟨A,NJ⟩:=n_ (ya (ym k z 0 (ps.take i)));obtain⟨R,Em⟩:=n_ (ya (ps.drop (i+1)));rw[<-NJ,<-Em] at eg Nl;rw[<-NJ] at a0F;have a0G:=zc a0F;have EW:=ha_ (Su w pb wr [(R2,sum.map B,144),(R1,(zg 16).map B,144),(Nh,z.map B,144),(MN,Tz,248),(pb,ZY A (eT++ax) R tl,267)]) eg;clear a1y ah a0N a0F aD he eg NJ Em;obtain⟨i1,aO⟩:=n_ (i+1);have a1N:(i:Int)+1=(i1:Int):=ae;have ig:i1<=1000:=ae;have NK:=t_ aO
   -- the names of what comes up
   obtain⟨Mw,a2d⟩:=n_ (zeF k 2 i1 z);obtain⟨a1c,a1d⟩:=n_ (yOf k z i (eT,ax));obtain⟨a2e,a2f⟩:=n_ (vOf k z i (eT,ax));obtain⟨C,a2g⟩:=n_ (kY k z i (eT,ax));obtain⟨a2h,I1⟩:=n_ (Zg k z i (eT,ax));have a2i:=s_ a2d;have Pn:=ha_ (plusB [eT,Mw]=a1c/\True) ⟨by rw[a1d,a2d,aO];rfl,trivial⟩;have Pu:=ha_ (plusB [ax,Mw]=a2e/\True) ⟨by rw[a2f,a2d,aO];rfl,trivial⟩;have SW:=ha_ (plusB [a1c,zeF k 0 0 a2e]=C/\True) ⟨by rw[a2g,a1d,a2f];rfl,trivial⟩;have N6:=ha_ (plusB [a2e,zeF k 1 i1 C]=a2h/\True) ⟨by rw[I1,a2g,a2f,aO];rfl,trivial⟩;have P3:=ha_ (Mw.length=16) (by rw[a2d];exact yU _ _ _ _);have PB:=ha_ (a1c.length=16) (by rw[a1d];exact KO _ _ _ _);have a2j:=ha_ (a2e.length=16) (by rw[a2f];exact KP _ _ _ _);have I7:=ha_ (C.length=16) (by rw[a2g];exact XU _ _ _ _);have NA:=ha_ (a2h.length=16) (by rw[I1];exact Qe _ _ _ _);rw[<-a1d] at EM;rw[<-I1,<-a2g] at Nl;clear aO a2d a1d a2f a2g I1;have a2k:=l_ Mw 16 P3;have Po:=l_ a1c 16 PB;have a2l:=l_ a2e 16 a2j;have RC:=l_ C 16 I7;have a0d:=l_ a2h 16 NA;go_wp2_with (refine EW.g2.zdS rfl rfl rfl zd a2c ?_);go_wp2_with fail;refine(JS kp q p 2 i1 k z _ (MM.zeD EW.only Ep a1G a1H) ae ig Ts).mono ?_;refine ajX a2i ?_;intro A4 hbel;refine afO ?_;intro EW;have aT:=hbel.size;go_wp2_with (refine aqB ?_);refine ast EW ?_;intro Na hbel EW PZ;go_wp2_with (refine EW.g0.zdP rfl rfl rfl rfl zd ga a2k (zj _) ?_);intro w7 aF oE;have EW:=ha_ (Su w pb w7 [(A4.heap.size,Mw.map B,144),(R2,sum.map B,144),(R1,(zg 16).map B,144),(Nh,z.map B,144),(MN,Tz,248),(pb,ZY A (eT++ax) R tl,267)]) (EW.change 0 aF oE (.inl o2) bq);generalize A4.heap.size=a0Y at*;have eI:=EW.g0.lt;have az:=λ(z:zL w7.drew)=>((EW.drew.later z.later).get 4 rfl).cell 0 (.slice (some ⟨pb,0,none⟩) np cp) n3;go_wp2_with fail;refine QE [0,1,2,3,4,5,6,9,10,11,12,13,14,15] [7,8,16,17,18,19] [20,21] [(8,[7]),(17,[8,16])] (λD x wx=>∃v10 v11 v31 v32 v40 v41,x={ tmps:=#[.agg Tz.toArray,.pointer (some ⟨kp,0,none⟩),.agg (z.map B).toArray,.pointer (some ⟨MN,0,none⟩),undef,.pointer (some ⟨Nh,0,none⟩),.pointer (some ⟨R1,0,none⟩),.pointer (some ⟨R2,0,none⟩),.int .i64 i,.pointer (some ⟨a0Y,0,none⟩),v10,v11,u12,.pointer (some ⟨MN,0,none⟩),.slice (some ⟨pb,0,none⟩) np cp,.int .i64 np,.int .i64 i,.bool true,.int .i64 i,.pointer (some ⟨kp,0,none⟩),.int .i64 i,.int .i64 i1,.agg (z.map B).toArray,.agg (Mw.map B).toArray,.pointer (some ⟨MN,0,none⟩),.slice (some ⟨pb,0,none⟩) np cp,.int .i64 i,.pointer (some ⟨pb,i*32,none⟩),.pointer (some ⟨pb,i*32,none⟩),.agg (eT.map B).toArray,.agg (Mw.map B).toArray,v31,v32,.pointer (some ⟨MN,0,none⟩),.slice (some ⟨pb,0,none⟩) np cp,.int .i64 i,.pointer (some ⟨pb,i*32,none⟩),.pointer (some ⟨pb,i*32+16,none⟩),.agg (ax.map B).toArray,.agg (Mw.map B).toArray,v40,v41,u42,u43,u44,u45,u46,u47,u48,u49,u50,u51,u52,u53,u54,u55,u56,u57,u58,u59,u60,u61,u62,u63,u64,u65,u66,undef],defers:=[] }/\Hid (Su w pb wx [(a0Y,Mw.map B,144),(R2,sum.map B,144),(R1,(zg 16).map B,144),(Nh,z.map B,144),(MN,Tz,248),(pb,ZY A (eT++ax) R tl,267)])/\w7.heap.size<=wx.heap.size/\Hid (BI D w7.heap.size wx v10 v11 v31 v32 v40 v41 eT ax Mw a1c a2e)) e0 e0 ?_ ?_ ?_
   ·rintro A4 rfl;have EW:=zc EW.drew;iterate 5 refine m10 ?_
    refine z7 (Blk.zea (EW.get 5 rfl) (i*32) 16 _ (by exact fT a0G a1L)) (EW.get 5 rfl).lt zd a1M rfl rfl rfl (λK hK=>?_);refine ali ?_;clear hK K;refine z7 EW.g0.range EW.g0.lt zd a2k rfl rfl rfl (λK hK=>?_);refine ali ?_;clear hK K;iterate 5 refine m10 ?_
    refine z7 (Blk.zea (EW.get 5 rfl) (i*32+16) 16 _ (by exact K9 a0G a1L uX)) (EW.get 5 rfl).lt zd EF rfl rfl rfl (λK hK=>?_);refine ali ?_;clear hK K;refine z7 EW.g0.range EW.g0.lt zd a2k rfl rfl rfl (λK hK=>?_);refine ali ?_;clear hK K;refine xF ⟨_,_,_,_,_,_,rfl,EW,zab _,BI.nought _ _ _ _ _ _⟩
   ·clear az;rintro D x wx a2m a1V a1Y a1X⟨v10,v11,v31,v32,v40,v41,rfl,EW,Eh,a2n⟩;simp only[zau,List.not_mem_nil,or_false] at a1V;rcases a1V with rfl|rfl|rfl|rfl|rfl|rfl
    ·refine afl ?_;intro K hK;refine qD 209 144 16 2 _ [eT.map B,Mw.map B] rfl rfl underlying209 zV rfl ae rfl ae ae nr (λw' hb hbel=>hK _ _ ?_);exact⟨λ_=>hbel,v10,v11,.slice (some ⟨wx.heap.size,0,none⟩) 2 2,v32,v40,v41,rfl,EW.later hbel,zat Eh hbel.size,(a2n.later hbel).s7 ⟨nr,nx⟩⟩
    ·obtain⟨a2o,rfl,eI⟩:=a2n.r7 (a1X 7 p0);refine aiL ?_;intro K hK;refine(ql (some ⟨a2o,0,none⟩) 2 2 [eT,Mw] _ rfl ae eI).mono ?_;refine ajX Pn ?_;intro w' hbel;go_simp;refine hK _ _ ?_;exact⟨λ_=>hbel,v10,v11,_,.agg (a1c.map B).toArray,v40,v41,rfl,EW.later hbel,zat Eh hbel.size,(a2n.later hbel).s8⟩
    ·refine afl ?_;intro K hK;refine qD 209 144 16 2 _ [ax.map B,Mw.map B] rfl rfl underlying209 zV rfl ae rfl ae ae (by simp[uX.o,P3.o]) (λw' hb hbel=>hK _ _ ?_);exact⟨λ_=>hbel,v10,v11,v31,v32,.slice (some ⟨wx.heap.size,0,none⟩) 2 2,v41,rfl,EW.later hbel,zat Eh hbel.size,(a2n.later hbel).s16 ⟨by simp[uX.o,P3.o],nx⟩⟩
    ·obtain⟨a2o,rfl,eI⟩:=a2n.r16 (a1X 16 p0);refine aiL ?_;intro K hK;refine(ql (some ⟨a2o,0,none⟩) 2 2 [ax,Mw] _ rfl ae eI).mono ?_;refine ajX Pu ?_;intro w' hbel;go_simp;refine hK _ _ ?_;exact⟨λ_=>hbel,v10,v11,v31,v32,_,.agg (a2e.map B).toArray,rfl,EW.later hbel,zat Eh hbel.size,(a2n.later hbel).s17⟩
    ·refine afl ?_;intro K hK;refine QF 144 ((zg 16).map B) _ rfl zl rfl (λw' hb hbel=>hK _ _ ?_);exact⟨λ_=>hbel,.pointer (some ⟨wx.heap.size,0,none⟩),v11,v31,v32,v40,v41,rfl,EW.later hbel,zat Eh hbel.size,a2n.s18 Eh hb hbel⟩
    ·refine afl ?_;intro K hK;refine QF 144 ((zg 16).map B) _ rfl zl rfl (λw' hb hbel=>hK _ _ ?_);exact⟨λ_=>hbel,v10,.pointer (some ⟨wx.heap.size,0,none⟩),v31,v32,v40,v41,rfl,EW.later hbel,zat Eh hbel.size,a2n.s19 Eh hb hbel⟩
   ·clear az;rintro x wx⟨v10,v11,v31,v32,v40,v41,rfl,EW,Eh,a2n⟩;obtain⟨a2o,rfl,aD,EO⟩:=a2n.r18 rfl;obtain⟨aZ,rfl,eh,AG⟩:=a2n.r19 rfl;obtain rfl:=a2n.r8 rfl;obtain rfl:=a2n.r17 rfl;have NX:a2o≠aZ:=λe=>a2n.ne rfl rfl (by rw[e]);have EW:=zc ((EW.add EO).add AG);clear a2n EO AG;refine aeA ?_;intro K hK;refine EW.g1.zd4 rfl rfl rfl zd ev Po (zj _) (λw9 hb ho=>hK _ _ ?_);clear hK K;have EW:=ha_ (Su w pb w9 ([(aZ,(zg 16).map B,144),(a2o,(zg 16).map B,144),(a0Y,Mw.map B,144),(R2,sum.map B,144),(R1,(zg 16).map B,144),(Nh,z.map B,144),(MN,Tz,248),(pb,ZY A (eT++ax) R tl,267)].set 1 (a2o,a1c.map B,144))) (EW.change 1 hb ho (.inl o2) bq);clear hb ho;go_simp;refine aeA ?_;intro K hK;refine EW.g0.zd4 rfl rfl rfl zd ev a2l (zj _) (λw10 hb ho=>hK _ _ ?_);clear hK K;have EW:=ha_ (Su w pb w10 ([(aZ,(zg 16).map B,144),(a2o,a1c.map B,144),(a0Y,Mw.map B,144),(R2,sum.map B,144),(R1,(zg 16).map B,144),(Nh,z.map B,144),(MN,Tz,248),(pb,ZY A (eT++ax) R tl,267)].set 0 (aZ,a2e.map B,144))) (EW.change 0 hb ho (.inl o2) bq);clear hb ho;refine aeS ?_;have aD:=EW.g1.lt;have eh:=EW.g0.lt;have a1O:=zc EW.ne;have a1P:=EW.size;go_wp2_with fail;refine xq [0,1,2] [3,4,5] [7] [zT.var 6 12 144 ((zg 16).map B)] e0 e0 ?_;rintro A4 rfl;have EW:=zc EW.drew;refine z7 EW.g1.range EW.g1.lt zd Po rfl rfl rfl (λK hK=>?_);refine ali ?_;clear hK K;refine m10 ?_;refine z7 EW.g0.range EW.g0.lt zd a2l rfl rfl rfl (λK hK=>?_);refine ali ?_;clear hK K;refine xF ⟨?_,?_,zab _⟩
    ·intro ib hf;exact aj7
    refine zQ rfl rfl (λuz wa12 hla K hK=>?_);refine ags ?_;intro EW;refine(JS kp q p 0 0 k a2e _ (MM.zeD EW.only Ep a1G a1H) ae ae a2j).mono ?_;refine aiN ?_;intro A4 hbel EW;refine afJ ?_;clear hK K hla;have a2p:=zc (yU k 0 0 a2e);generalize zeF k 0 0 a2e=a2q at*;refine zQ rfl rfl (λuz wa13 hla K hK=>?_);refine qD 209 144 16 2 _ [a1c.map B,a2q.map B] rfl rfl underlying209 zV rfl ae rfl ae ae (by simp[PB.o,a2p.o]) ?_;intro A4 hb hbel;have EW:=zc (EW.later (hla.trans hbel));refine hK _ _ hbel ?_;have uY:=ha_ (y7 16 A4 (some ⟨wa13.heap.size,0,none⟩) [a1c,a2q]) ⟨by simp[PB.o,a2p.o],nx⟩;clear hK K hla hb;go_simp;refine ak2 ?_;intro uz wa14 hla K hK;refine(ql (some ⟨wa13.heap.size,0,none⟩) 2 2 [a1c,a2q] _ rfl ae (uY.below hla)).mono ?_;rintro e w14⟨rfl,hbel⟩;have EW:=zc (EW.later (hla.trans hbel));rw[SW.1];refine afJ ?_;clear hK K hla;refine asi EW ?_;intro zk0 wb14 hbx14 EW;refine aeA ?_;intro K hK;refine EW.g0.zd4 rfl rfl rfl zd ev (by rw[zaa];exact I7) (zj _) (λw14 hb ho=>hK _ _ ?_);clear hK K;have EW:=zc (EW.change 0 hb ho (.inl o2) (λe he=>by have:=a1O.o e he;omega));clear hb ho a1P;refine aeS ?_;have aH:=EW.g0.lt;have az:=λ(z':zL w14.drew)=>((EW.drew.later z'.later).get 7 rfl).cell 0 (.slice (some ⟨pb,0,none⟩) np cp) n3;go_wp2_with fail;refine zp [0,1,2,3,4,5,6,7,11,8,9,10,12,13,14] e0 e0 ?_;rintro A4 rfl;have EW:=zc EW.drew;iterate 3 refine m1R ?_
    refine zB EW.g1.range EW.g1.lt zd a2l rfl rfl rfl rfl (λK hK=>?_);refine ali ?_;clear hK K;iterate 3 refine m1R ?_
    refine zB EW.g0.range EW.g0.lt zd RC rfl rfl rfl rfl (λK hK=>?_);refine ali ?_;clear hK K;refine zB EW.g0.range EW.g0.lt zd RC rfl rfl rfl rfl (λK hK=>?_);refine ali ?_;clear hK K;clear az;refine Pm ?_;intro K hK;refine(JS kp q p 1 i1 k C _ (MM.zeD EW.only Ep a1G a1H) ae ig I7).mono ?_;rintro e Nf⟨rfl,hbel⟩;refine afO ?_;intro EW;refine afJ ?_;clear hK K;have a2r:=zc (yU k 1 i1 C);generalize zeF k 1 i1 C=Tx at*;refine Sm ?_;intro K hK;refine qD 209 144 16 2 _ [a2e.map B,Tx.map B] rfl rfl underlying209 zV rfl ae rfl ae ae (by simp[a2j.o,a2r.o]) ?_;intro A4 hb hbel;refine afO ?_;intro EW;have uY:=ha_ (y7 16 A4 (some ⟨Nf.heap.size,0,none⟩) [a2e,Tx]) ⟨by simp[a2j.o,a2r.o],nx⟩;refine hK _ _ hbel ?_;clear hK K hb;go_simp;refine Pm ?_;intro K hK;refine(ql (some ⟨Nf.heap.size,0,none⟩) 2 2 [a2e,Tx] _ rfl ae uY).mono ?_;refine aiN ?_;intro A4 hbel EW;rw[N6.1];refine afJ ?_;clear hK K;have IS:=K7 a2h C NA I7;refine jd rfl rfl aa 267 _ [(0,.agg (a2h.map B).toArray),(1,.agg (C.map B).toArray)] _ rfl rfl IS (λK hK=>?_);go_simp;refine hK _ ?_;clear hK K IS;refine aiG ?_;intro K hK;refine(EW.get 8 rfl).zeC (o:=i*32) (cs:=a2h.map B++C.map B) rfl rfl rfl Zr (by simp[NA.o,I7.o]) o0 akL (λw19 zka ho19=>hK _ _ ?_);clear hK K;have zka:Blk w19 pb (ZY A (a2h++C) R tl) 267:=by
     rw[<-pD (A:=A) (M:=eT++ax) (C:=a2h++C) (R:=R) (tl:=tl) a0G.o (by simp[a1L.o,uX.o,NA.o,I7.o])];simpa[zal] using zka
    have EW:=ha_ (Su w pb w19 [(zk0,C.map B,144),(aZ,a2e.map B,144),(a2o,a1c.map B,144),(a0Y,Mw.map B,144),(R2,sum.map B,144),(R1,(zg 16).map B,144),(Nh,z.map B,144),(MN,Tz,248),(pb,ZY A (a2h++C) R tl,267)]) (EW.change 8 zka ho19 (.inr rfl) bq);clear zka ho19;refine aeS ?_;have Om:=zc (zdQ [sum,a1c]);go_wp2_with (first|(refine(EW.get 4 rfl).zdS rfl rfl rfl zd Pb ?_)|(refine EW.g2.zdS rfl rfl rfl zd Po ?_)|(refine qL 209 144 16 2 _ [sum.map B,a1c.map B] rfl rfl rfl underlying209 zV rfl ae rfl ae ae (by simp[EZ.o,PB.o]) ?_));intro A4 hb hbel;refine afO ?_;intro EW;have uY:=ha_ (y7 16 A4 (some ⟨w19.heap.size,0,none⟩) [sum,a1c]) ⟨by simp[EZ.o,PB.o],nx⟩;clear hb;go_wp2_with fail;refine(ql (some ⟨w19.heap.size,0,none⟩) 2 2 [sum,a1c] _ rfl ae uY).mono ?_;refine aiN ?_;intro A4 hbel EW;generalize plusB [sum,a1c]=ej at*;go_wp2_with (refine(EW.get 4 rfl).zdP rfl rfl rfl rfl zd Pb hP (zj _) ?_);intro A4 aF oE;have EW:=ha_ (Su w pb A4 [(zk0,C.map B,144),(aZ,a2e.map B,144),(a2o,a1c.map B,144),(a0Y,Mw.map B,144),(R2,ej.map B,144),(R1,(zg 16).map B,144),(Nh,z.map B,144),(MN,Tz,248),(pb,ZY A (a2h++C) R tl,267)]) (EW.change 4 aF oE (.inl o2) bq);have EW:=ha_ (Su w pb A4 [(R2,ej.map B,144),(R1,(zg 16).map B,144),(Nh,z.map B,144),(MN,Tz,248),(pb,(ya (ym k z 0 (ps.take (i+1))++ps.drop (i+1))).map B++tl,267)]) (by rw[Nl.1];exact EW.zhH.zhH);clear aF oE;exact aht
  ·obtain rfl:i=np:=ae;have EM:=ha_ (sum=a1J/\True) ⟨o3,trivial⟩;have EW:=ha_ (Su w pb wr [(R2,sum.map B,144),(R1,(zg 16).map B,144),(Nh,z.map B,144),(MN,Tz,248),(pb,(ya (ym k z 0 ps)).map B++tl,267)]) (by
    have:=EW.o
    rwa [zak na,zai na,za5] at this)
   go_wp2_with (first|(refine EW.g0.zdS rfl rfl rfl zd Pb ?_)|(refine EW.g1.zdP rfl rfl rfl rfl zd ga Pb (zj _) ?_));intro Na aF oE;have EW:=zc (EW.change 1 aF oE (.inl o2) bq);have Ih:=zc (EW.get 4 rfl);go_wp2;refine aF.result rfl rfl rfl zd Pb ⟨by rw[EM.1],Ih,EW.only⟩
section
variable{P:Program}{ops:Array Oper}{Q:Exit->Act->World->Prop}{R:World->World->Prop}{C:Act->World->Prop}
def ZU{i:Nat}{r:List Nat}{o:Oper}{a:Act}{w:World}{ty:TypeId}{x:Operand}{b off n:Nat}{vs:Lb_}(h:∀w',R w w'->w'.rangeAt b off vs)(hr:Row P ty n)(hn:vs.length=n)(ho:ops[i]? = some o)(hg:o.guard=none)(hop:o.op=.load ty x)(hx:a.eval x=.pointer (some ⟨b,off,none⟩))(k:∀K:Act->Prop,(∀a',je R P ops C r a' w->K a')->K (a.put o.dst (.agg vs.toArray))):je R P ops C (i::r) a w:=by have Am:Region.wanted o (yielded ops a.tmps)=true:=eo;simp only[je,ho,Am,if_true];exact⟨_,λw' hw'=>Z9 hop hx hr hn (h w' hw'),k _ λ_ h=>h⟩
end
variable{w w' w0:World}{o:Option Nat}{c base:Nat}{L:List (Nat×Lb_×TypeId)}
def Blk.grown{vs:Lb_}{ty:TypeId}(h:Blk w c vs ty)(hg:w.grownBy w' o)(hne:some c≠o):Blk w' c vs ty:=(hg.block c h.lt hne).trans h
def qq(h:Below w.heap.size w w'):w.grownBy w' o:=⟨h.os,h.tape,h.output,h.size,λk hk _=>h.block k hk⟩
def Wj(h:zJ c w w'):w.grownBy w' (some c):=⟨h.os,h.tape,h.output,h.size,λk hk hne=>h.block k hk (λe=>hne (by rw[e]))⟩
def St.zhI(h:St w0 base w L):St w base w L:=⟨zat h.zeu h.bel.size,Below.refl _ _,h.all⟩
def St.zgN(h:St w0 base w L){B:Nat}(hB:B<=w.heap.size):St w B w L:=⟨hB,Below.refl _ _,h.all⟩
def St.ze8(h:St w0 base w L):St w w.heap.size w L:=⟨zab _,Below.refl _ _,h.all⟩
def St.grown(h:St w0 base w L)(hg:w.grownBy w' o)(hob:∀g,o=some g->base<=g)(hne:∀e∈L,some e.1≠o):St w0 base w' L :=
 ⟨h.zeu,h.bel.grown hg h.size (λk hk=>hob k hk),λe he=>(h.all e he).grown hg (hne e he)⟩
end
section
attribute [local irreducible] zA zG zH zE zR je
def PM(w:World)(pv:Value)(ps:xI)(o:Option Nat):Prop :=
 (∀p∈ps,qJ p)/\((pv=.slice none 0 0/\ps=[]/\o=none)\/∃g cp tl,o=some g/\pv=.slice (some ⟨g,0,none⟩) ps.length cp/\Blk w g ((ya ps).map B++tl) 267)
def PM.later{w w':World}{pv:Value}{ps:xI}{o:Option Nat}(h:PM w pv ps o)(hb:Below w.heap.size w w'):PM w' pv ps o :=
 ⟨h.1,h.2.imp id λ⟨g,cp,tl,e1,e2,e3⟩=>⟨g,cp,tl,e1,e2,e3.below hb e3.lt⟩⟩
def PM.only{w w':World}{pv:Value}{ps:xI}{o:Option Nat}{c:Nat}{vs:Lb_}{ty:TypeId}(h:PM w pv ps o)(hc:Blk w c vs ty)(hne:(267:TypeId)≠ty)(ho:Only c w w'):PM w' pv ps o :=
 ⟨h.1,h.2.imp id λ⟨g,cp,tl,e1,e2,e3⟩=>⟨g,cp,tl,e1,e2,e3.only ho (e3.ne' hc hne)⟩⟩
def PM.rows{w:World}{pv:Value}{ps:xI}{o:Option Nat}(h:PM w pv ps o):∃ap cp,pv=.slice ap ps.length cp/\y7 32 w ap (ps.map bQ):=by
 obtain⟨eP,⟨rfl,rfl,_⟩|⟨ie,cp,eC,_,rfl,aF⟩⟩:=h
 ·exact⟨none,0,rfl,⟨ab,zr.nil _ _⟩⟩
 ·refine⟨_,cp,rfl,tJ eP ?_⟩;have:=aF.lies.take ((ya ps).map B).length
  rwa [zbo] at this
def PM.one{w:World}{pv:Value}{ps:xI}{o:Option Nat}(h:PM w pv ps o):pv.oneCell'=true:=by obtain⟨_,⟨rfl,_⟩|⟨ie,a2s,eC,_,rfl,_⟩⟩:=h<;>rfl
def Ci{w:World}{base:Nat}{pv:Value}{ps:xI}(hf:∀p∈ps,qJ p)(h:w.ownsRow base 267 32 pv ps.length ((ya ps).map B)):∃o,PM w pv ps o/\∀g,o=some g->base<=g/\g<w.heap.size:=by
 rcases h.2 with⟨rfl,hn⟩|⟨g,cap,cur,rfl,hb,hg,h1,h2,h3,ht⟩
 ·exact⟨none,⟨hf,.inl ⟨rfl,List.eq_nil_of_length_eq_zero hn,rfl⟩⟩,λg e=>by cases e⟩
 ·have Ik:Blk w g ((ya ps).map B++cur.toList.drop (ps.length*32)) 267:=by
   rw[<-ht,List.take_append_drop];unfold Blk;rw[hg]
  exact⟨some g,⟨hf,.inr ⟨g,cap,_,rfl,rfl,Ik⟩⟩,λg' e=>by cases e;exact⟨hb,Ik.lt⟩⟩
def Wk{w w':World}{pv v:Value}{ps:xI}{o:Option Nat}{base size n:Nat}{e:TypeId}{xs:Lb_}(h:w.ownsRow base e size v n xs)(hp:PM w pv ps o)(hne:e≠267)(hg:w.grownBy w' o):w'.ownsRow base e size v n xs:=by
 refine⟨h.1,h.2.imp id ?_⟩;rintro⟨ie,oF,oH,aL,aF,oI,oJ⟩;refine⟨ie,oF,oH,aL,aF,(hg.block ie (Array.getElem?_eq_some_iff.1 oI).1 (λe'=>?_)).trans oI,oJ⟩;obtain⟨_,⟨_,_,rfl⟩|⟨ie,a2s,eC,rfl,_,aF⟩⟩:=hp
 ·cases e'
 ·cases e';unfold Blk at aF;rw[oI] at aF;cases aF;exact hne rfl
def Cj{pv uv vv:Value}{x y y':La_}(hx:x.length=16)(hy:y.length=16)(hy':y'.length=16):(yL pv uv vv x y).take 19++y'.map B++(yL pv uv vv x y).drop (19+(y'.map B).length)=yL pv uv vv x y':=by
 have ai:(yL pv uv vv x y).take 19=pv::uv::vv::x.map B:=by
  show pv::uv::vv::(x.map B++y.map B).take 16=_;rw[show(16:Nat)=(x.map B).length by simp[hx],zbo]
 rw[ai,zak (by rw[y8 hx hy];simp[hy'])];simp[yL]
def Ck{pv uv vv:Value}{x y x':La_}(hx:x.length=16)(hx':x'.length=16):(yL pv uv vv x y).take 3++x'.map B++(yL pv uv vv x y).drop (3+(x'.map B).length)=yL pv uv vv x' y:=by
 have ai:(yL pv uv vv x y).drop (3+(x'.map B).length)=y.map B:=by
  rw[show 3+(x'.map B).length=16+1+1+1 by simp[hx']];show(x.map B++y.map B).drop 16=_;rw[show(16:Nat)=(x.map B).length by simp[hx],zbs]
 rw[ai];rfl
def Cl(kp:Nat)(k:zx)(uv vv:Value)(x y:La_)(w:World):C_b 157 #[.agg (yL (.slice none 0 0) uv vv x y).toArray,.pointer (some ⟨kp,0,none⟩)] w (.agg ((zg 16).map B).toArray):=by
 refine aeC ?_;intro EW;obtain⟨Tz,Ty⟩:=n_ (yL (.slice none 0 0) uv vv x y);have a1w:=t_ Ty;rw[<-Ty];clear Ty;go_enter func157,ntmps157;go_wp2_with (refine aqI ?_);refine am7 ?_;intro A4 aF sy EW aB;go_wp2_with (refine aqB ?_);refine amb ?_;intro Ev aF sy EW aB;go_wp2_with (refine aqB ?_);refine amg ?_;intro IX aF sy EW aB;generalize M1:w.heap.size=MN at*;generalize A4.heap.size=Nh at*;generalize Ev.heap.size=R1 at*;have IZ:=zc M1;clear M1;have az:=EW.g2.cell 0 (.slice none 0 0) n3;go_wp2;go_loopw [12] (λc wr=>c=.int .i64 0/\Hid (St w MN wr [(R1,(zg 16).map B,144),(Nh,(zg 16).map B,144),(MN,Tz,248)])) (λc _=>0);case atStart=>exact⟨rfl,EW⟩
 case round =>
  exact afY
def tL(kp:Nat)(k:zx)(uv vv:Value)(x y z:La_)(w:World)(hz:z.length=16):C_b 159 #[.agg (yL (.slice none 0 0) uv vv x y).toArray,.pointer (some ⟨kp,0,none⟩),.agg (z.map B).toArray] w (.agg ((zg 16).map B).toArray):=by
 refine aeC ?_;intro EW;obtain⟨Tz,Ty⟩:=n_ (yL (.slice none 0 0) uv vv x y);have a1w:=t_ Ty;rw[<-Ty];clear Ty hz;go_enter func159,ntmps159;go_wp2_with (refine aqI ?_);refine am7 ?_;intro A4 aF sy EW aB;go_wp2_with (refine zh 144 _ (z.map B) _ rfl rfl rfl rfl ?_);refine amb ?_;intro Ev aF sy EW aB;go_wp2_with (refine aqB ?_);refine amg ?_;intro IX aF sy EW aB;go_wp2_with (refine aqB ?_);refine amx ?_;intro MF aF sy EW MJ;generalize M1:w.heap.size=MN at*;generalize A4.heap.size=Nh at*;generalize Ev.heap.size=R1 at*;generalize IX.heap.size=R2 at*;have IZ:=zc M1;clear M1;have az:=(EW.get 3 rfl).cell 0 (.slice none 0 0) n3;go_wp2;go_loopw [16] (λc wr=>c=.int .i64 0/\Hid (St w MN wr [(R2,(zg 16).map B,144),(R1,(zg 16).map B,144),(Nh,z.map B,144),(MN,Tz,248)])) (λc _=>0);case atStart=>exact⟨rfl,EW⟩
 case round =>
  exact afY
def Cm(kp q p:Nat)(k:zx)(pv:Value)(ps:xI)(o:Option Nat)(uv vv:Value)(x y:La_)(w:World)(hk:qu w kp q p k)(h:PM w pv ps o)(hb:ps.length<=900):Ca_ 157 #[.agg (yL pv uv vv x y).toArray,pa_ kp] w λe w'=>e=.returned (.agg ((js k 0 (zg 16) ps).map B).toArray)/\PM w' pv (yE k 0 ps) o/\w.grownBy w' o:=by
 obtain⟨eP,⟨rfl,rfl,rfl⟩|⟨ie,a2s,eC,rfl,rfl,eE⟩⟩:=h
 ·refine(Cl kp k uv vv x y w).mono ?_;rintro e w'⟨rfl,sy⟩;exact⟨rfl,⟨by simp[yE],.inl ⟨rfl,rfl,rfl⟩⟩,qq sy⟩
 ·refine(FH kp q p k ie ps.length a2s ps eC uv vv x y w hk rfl eP eE hb).mono ?_;rintro e w'⟨rfl,hb,oE⟩;exact⟨rfl,⟨KQ k _ _,.inr ⟨ie,a2s,eC,rfl,by rw[kM],hb⟩⟩,Wj oE⟩
def tM(kp q p:Nat)(k:zx)(pv:Value)(ps:xI)(o:Option Nat)(uv vv:Value)(x y z:La_)(w:World)(hk:qu w kp q p k)(h:PM w pv ps o)(hb:ps.length<=900)(hz:z.length=16):Ca_ 159 #[.agg (yL pv uv vv x y).toArray,pa_ kp,.agg (z.map B).toArray] w λe w'=>e=.returned (.agg ((qZ k z 0 (zg 16) ps).map B).toArray)/\PM w' pv (ym k z 0 ps) o/\w.grownBy w' o:=by
 obtain⟨eP,⟨rfl,rfl,rfl⟩|⟨ie,a2s,eC,rfl,rfl,eE⟩⟩:=h
 ·refine(tL kp k uv vv x y z w hz).mono ?_;rintro e w'⟨rfl,sy⟩;exact⟨rfl,⟨by simp[ym],.inl ⟨rfl,rfl,rfl⟩⟩,qq sy⟩
 ·refine(Ch kp q p k ie ps.length a2s ps eC uv vv x y z w hk rfl eP hz eE hb).mono ?_;rintro e w'⟨rfl,hb,oE⟩;exact⟨rfl,⟨Z1 k z _ _,.inr ⟨ie,a2s,eC,rfl,by rw[kZ],hb⟩⟩,Wj oE⟩
def Kx(k:zx):∀(n:Nat)(s:La_)(ps:xI),s.length=16->(js k n s ps).length=16
 | _,_,[],h=>h
 | n,s,p::r,_=>Kx k (n+1) _ r (zdQ _)
def QH(k:zx)(z:La_):∀(n:Nat)(s:La_)(ps:xI),s.length=16->(qZ k z n s ps).length=16
 | _,_,[],h=>h
 | n,s,p::r,_=>QH k z (n+1) _ r (zdQ _)
def J1(k:zx)(u v:La_):(wy k u v).length=16:=by
 unfold wy;split
 ·exact ze 16
 ·split
  ·exact zdQ _
  ·exact yU _ _ _ _
structure TI(d2 d5 d6 d7 d8:Bool)(base:Nat)(w:World)(v2 v5 v6 v7 v8:Value)(A T S:La_):Prop where
 r2:d2=true->v2=.agg (A.map B).toArray
 r5:d5=true->v5=.agg (T.map B).toArray
 r6:d6=true->∃n,v6=.slice (some ⟨n,0,none⟩) 2 2/\y7 16 w (some ⟨n,0,none⟩) [A,T]/\d2=true
 r7:d7=true->v7=.agg (S.map B).toArray
 r8:d8=true->∃n,v8=.pointer (some ⟨n,0,none⟩)/\base<=n/\Blk w n ((zg 16).map B) 144
section
variable{d2 d5 d6 d7 d8:Bool}{base:Nat}{w w':World}{v2 v5 v6 v7 v8:Value}{A T S:List UInt8}
def TI.nought:TI false false false false false base w v2 v5 v6 v7 v8 A T S:=⟨λh=>ds,λh=>ds,λh=>ds,λh=>ds,λh=>ds⟩
def TI.later(h:TI d2 d5 d6 d7 d8 base w v2 v5 v6 v7 v8 A T S)(hb:Below w.heap.size w w'):TI d2 d5 d6 d7 d8 base w' v2 v5 v6 v7 v8 A T S :=
 ⟨h.r2,h.r5,λx=>by obtain⟨n,e,r,s⟩:=h.r6 x;exact⟨n,e,r.below hb,s⟩,h.r7,λx=>by obtain⟨n,e,r,s⟩:=h.r8 x;exact⟨n,e,r,s.below hb s.lt⟩⟩
def TI.s2(h:TI false d5 d6 d7 d8 base w v2 v5 v6 v7 v8 A T S){o:Option Nat}(ho:w.grownBy w' o)(hg:∀g,o=some g->g<base):TI true d5 d6 d7 d8 base w' (.agg (A.map B).toArray) v5 v6 v7 v8 A T S :=
 ⟨λ_=>rfl,h.r5,λx=>(by obtain⟨n,e,r,s⟩:=h.r6 x;cases s),h.r7,λx=>(by obtain⟨n,e,r,s⟩:=h.r8 x;exact⟨n,e,r,s.grown ho (λe'=>by have:=hg n e'.symm;omega)⟩)⟩
def TI.s5(h:TI d2 d5 d6 d7 d8 base w v2 v5 v6 v7 v8 A T S):TI d2 true d6 d7 d8 base w v2 (.agg (T.map B).toArray) v6 v7 v8 A T S:=⟨h.r2,λ_=>rfl,h.r6,h.r7,h.r8⟩
def TI.s6(h:TI d2 d5 d6 d7 d8 base w v2 v5 v6 v7 v8 A T S){n:Nat}(hr:y7 16 w (some ⟨n,0,none⟩) [A,T])(hd:d2=true):TI d2 d5 true d7 d8 base w v2 v5 (.slice (some ⟨n,0,none⟩) 2 2) v7 v8 A T S:=⟨h.r2,h.r5,λ_=>⟨n,rfl,hr,hd⟩,h.r7,h.r8⟩
def TI.s7(h:TI d2 d5 d6 d7 d8 base w v2 v5 v6 v7 v8 A T S):TI d2 d5 d6 true d8 base w v2 v5 v6 (.agg (S.map B).toArray) v8 A T S:=⟨h.r2,h.r5,h.r6,λ_=>rfl,h.r8⟩
def TI.s8(h:TI d2 d5 d6 d7 d8 base w v2 v5 v6 v7 v8 A T S)(hB:base<=w.heap.size)(hbl:Blk w' w.heap.size ((zg 16).map B) 144)(hb:Below w.heap.size w w'):TI d2 d5 d6 d7 true base w' v2 v5 v6 v7 (.pointer (some ⟨w.heap.size,0,none⟩)) A T S:=by have ag:=h.later hb;exact⟨ag.r2,ag.r5,ag.r6,ag.r7,λ_=>⟨_,rfl,hB,hbl⟩⟩


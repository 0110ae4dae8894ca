/- Laws. -/
import Derived.Test.YtkochfajaaiekaaGreatDoorY16
set_option linter.all false
set_option maxHeartbeats 16000000
set_option maxRecDepth 100000
open List renaming getElem?_eq_none->zaf,length_append->zac,length_map->zaa,length_take->zam,map_append->zaD,map_take->zbW,mem_cons->zau,mem_map->zaz,mem_of_getElem?->zad
open Nat renaming le_refl->zab,le_trans->zat
open UInt64 renaming ofNat->zae
namespace Go.Proofs.YtkochfajaaiekaaGreatDoor
open Go.Proofs.Tryz
open Go.Proofs.Tryz renaming prog->pgm
open RowKit
variable{w w':World}{ao no ado:OA}{n N cap cp bc br bt g t n0 nn nc adc:Nat}{h zdR:La_}{k:yo}{ss:List Str}
def GI{base:Nat}{e:TypeId}{m c:Nat}{xs:Lb_}(h:w.ownsRow base e 1 (.slice ao m c) m xs)(hn:n<=m):w.ownsRow base e 1 (.slice ao n c) n (xs.take n):=by
 rcases h.2 with⟨hv,h0⟩|⟨g,cap,cur,hv,hb,hg,h1,h2,h3,ht⟩
 ·cases hv;obtain rfl:n=0:=ae;exact⟨ab,.inl ⟨rfl,rfl⟩⟩
 ·cases hv;refine⟨by rw[zam,h.1];omega,.inr ⟨g,c,cur,rfl,hb,hg,ae,h2,h3,?_⟩⟩;rw[<-ht,List.take_take];congr 1;omega
def kR(h:La_)(n i:Nat):La_:=(List.range 16).map λk=>if 16-i<=k then yj (at8 h k) (at8 (zw (zae n)) (15-k)) else at8 h k
def jf(h:La_)(n i:Nat):(kR h n i).length=16:=by simp[kR]
def Yi(h:La_)(n i k:Nat)(hk:k<16):(kR h n i)[k]? = some (if 16-i<=k then yj (at8 h k) (at8 (zw (zae n)) (15-k)) else at8 h k):=by unfold kR;rw[List.getElem?_map,List.getElem?_range hk];rfl
def mw(hl:h.length=16)(n:Nat):kR h n 0=h:=by refine XS (jf _ _ _) hl λk hk=>?_;rw[zeg (Yi h n 0 k hk),if_neg ae]
def mx(h:La_)(n:Nat):kR h n 8=zeK h n:=by unfold kR zeK;exact agW
def my(h:La_)(n:Nat){i:Nat}(hi:i<8):(kR h n i).set (15-i) (yj (at8 h (15-i)) (at8 (zw (zae n)) i))=kR h n (i+1):=by
 apply List.ext_getElem?;intro Pp;by_cases aQ:Pp<16
 ·rw[List.getElem?_set,jf,Yi h n i Pp aQ,Yi h n (i+1) Pp aQ];by_cases ai:15-i=Pp
  ·subst ai;rw[if_pos rfl,if_pos ae,if_pos ae,show 15-(15-i)=i by omega]
  ·rw[if_neg ai];by_cases h:16-i<=Pp
   ·rw[if_pos h,if_pos ae]
   ·rw[if_neg h,if_neg ae]
 ·rw[zaf (by rw[List.length_set,jf];omega),zaf (by rw[jf];omega)]
def Ul(k:zx)(h:La_)(n:Nat)(f:Nat){out:La_}(hn:n<=out.length):YS k h n f out=out:=by
 cases f with
 | zero=>rfl
 | succ f=>rw[YS,if_pos hn]
section
attribute [local irreducible] zA zG zH zE zR
def rB(h:La_)(n:Nat)(w:World)(hh:h.length=16)(hn:n<=1000):C_b 136 #[.agg (h.map B).toArray,.int .i64 n] w (.agg ((zeK h n).map B).toArray):=by
 refine aeC ?_;intro EW;have PX:=l_ h 16 hh;have PW:=zc (mw hh n);have PH:=zc (zy (zae n));have Ru:=zc (cL (n:=n) ae);clear hh;go_enter func136,ntmps136;go_wp2_with (refine aqH ?_);refine am7 ?_;intro A4 aF sy EW aB;go_wp2_with (refine aqB ?_);refine amb ?_;intro Ev aF sy EW aB;generalize M1:w.heap.size=MN at*;generalize A4.heap.size=MP at*;have IZ:=zc M1;clear M1;go_wp2_with fail;rw[Ru.1];refine(qj (zae n) _).mono ?_;rintro ai A4⟨rfl,Ey⟩;have EW:=ha_ (St w MN A4 [(MP,(zg 16).map B,144),(MN,(kR h n 0).map B,144)]) (by rw[PW.o];exact EW.later Ey);clear Ey;go_wp2;go_loopw [10] (λc wr=>∃i:Nat,i<=8/\c=.int .i64 i/\Hid (St w MN wr [(MP,(zg 16).map B,144),(MN,(kR h n i).map B,144)])) (λc _=>8-(intOf c).toNat);case atStart=>exact⟨0,ae,rfl,EW⟩
 case round =>
  clear EW;obtain⟨i,aO,rfl,EW⟩:=hrel;by_cases aB:i<8
  ·refine asG ?_;intro Nx j aA ai R4;have P7:=ha_ ((kR h n i).set j (yj (at8 h j) (at8 (zw (zae n)) i))=kR h n (i+1)/\True) ⟨by rw[aA];exact my h n aB,trivial⟩;have az:=EW.g1.cell j (B (at8 h j)) (zX (by rw[Yi h n i j R4,if_neg (by omega)]));clear aA;go_wp2_with (refine EW.g1.zeJ (v:=B (yj (at8 h j) (at8 (zw (zae n)) i))) (i:=j) rfl rfl rfl rfl zm rfl rfl (by rw[zaa,jf];omega) ?_);intro A4 aF oE;rw[yD,P7.1] at aF;have EW:=ha_ (St w MN A4 [(MP,(zg 16).map B,144),(MN,(kR h n (i+1)).map B,144)]) (EW.change 1 aF oE ae bq);clear Nx az;exact aeV
  ·obtain rfl:i=8:=by omega
   rw[mx] at EW;have RC:=l_ (zeK h n) 16 (XR h n);go_wp2_with (first|(refine EW.g1.zdS rfl rfl rfl zd RC ?_)|(refine EW.g0.zdP rfl rfl rfl rfl zd ga RC (zj _) ?_));exact ajc
abbrev rC(kp bh:Nat)(ao:OA)(N cap n:Nat)(v:Value)(us:Nat->Value):Act:={ tmps:=#[.pointer (some ⟨kp,0,none⟩),.slice ao N cap,.int .i64 n,us 3,us 4,us 5,us 6,us 7,.pointer (some ⟨bh,0,none⟩),v,us 10,us 11,us 12,us 13,us 14,us 15,us 16,us 17,us 18,us 19,us 20,us 21,us 22,us 23,us 24,us 25,us 26,us 27,us 28,us 29,us 30,us 31,us 32,us 33,us 34,us 35,us 36,us 37,us 38,us 39,us 40,us 41,us 42,us 43],defers:=[] }
def rD(kp:Nat)(ao:OA)(N cap n:Nat)(k:zx)(h r:La_)(w:World)(x:Act)(wr:World):Prop :=
 ∃(bh bz:Nat)(us:Nat->Value)(va:OA)(m vc c f:Nat)(out:La_),x=rC kp bh ao N cap n (.slice va m vc) us/\w.heap.size<=bh/\bh<bz/\m=16*c/\m<=n+15/\n<m+f/\m<=vc/\Hid (out.length=m/\YS k h n f out=r)/\Hid (wr.ownsRow bz 5 1 (.slice va m vc) m (out.map B))/\Hid (St w w.heap.size wr [(bh,h.map B,144)])/\bz<=wr.heap.size
def rD.intro{kp:Nat}{k:zx}{r:La_}{x:Act}{wr:World}(bh bz:Nat)(va:OA)(m vc c f:Nat)(out:La_)(hx:x=rC kp bh ao N cap n (.slice va m vc) (λi=>x.tmps.getD i undef))(h1:w.heap.size<=bh)(h2:bh<bz)(h3:m=16*c)(h4:m<=n+15)(h5:n<m+f)(h6:m<=vc)(h7:out.length=m/\YS k h n f out=r)(h8:wr.ownsRow bz 5 1 (.slice va m vc) m (out.map B))(h9:St w w.heap.size wr [(bh,h.map B,144)])(h10:bz<=wr.heap.size):rD kp ao N cap n k h r w x wr :=
 ⟨bh,bz,_,va,m,vc,c,f,out,hx,h1,h2,h3,h4,h5,h6,h7,h8,h9,h10⟩
def zjv(kp q p:Nat)(k:zx)(ao:OA)(N cap n:Nat)(ss:List Str)(w:World)(hk:qu w kp q p k)(hN:ss.length=N)(hN1:N<=500)(hs:yI w ao ss)(hlen:∀s∈ss,s.bs.length<=10000)(hn:n<=10000):Ca_ 113 #[pa_ kp,.slice ao N cap,.int .i64 n] w λe w'=>∃v,e=.returned (.tuple #[v,.int .i64 0])/\w'.ownsRow w.heap.size 5 1 v n ((Ka k (rowOf ss) n).map B)/\Below w.heap.size w w':=by
 obtain⟨aS,aO,aT,aU,aV⟩:=info_parts z5;refine aeW ?_;intro NK;refine ajJ hk hN hs ?_;intro MM Ii a0f;have A2:=zc hlen;refine aeC ?_;intro EW;have aN:decide ((n:Int)<0)=false:=ab;have aN:decide ((n:Int)>65536)=false:=bq;obtain⟨h,oI⟩:=n_ (q8 k (rowOf ss));have PW:=ha_ (q8 k (rowOf ss)=h/\h.length=16) ⟨oI.symm,by rw[oI];exact Ze _ _⟩;have PX:=l_ h 16 PW.2;obtain⟨An,eI⟩:=n_ (YS k h n (n+1) []);have uY:=ha_ (Ka k (rowOf ss) n=An.take n/\YS k h n (n+1) []=An) ⟨by unfold Ka;rw[PW.1,eI],eI.symm⟩;clear hk hN hs hlen aO aT aU aV oI eI;go_enter func113,ntmps113;go_wp2_with fail;refine zN 0 (rD kp ao N cap n k h An w) (λx _=>n+16-X3 (x.tmps.getD 9 undef)) rfl ?_ ?_
 ·simp only[qb];go_wp2_with fail;refine(WS kp q p k ao N cap ss _ MM Ii hN1 a0f A2).mono ?_;refine ajX PW ?_;intro A4 sy;refine aex ?_;intro EW;have aU:=sy.size;go_wp2_with (refine aqB ?_);refine amb ?_;intro Ev aF sy EW aB;go_wp2_with (refine EW.g0.zdP rfl rfl rfl (cs:=h.map B) rfl zd ga PX (zj _) ?_);intro IX aF oE;have EW:=ha_ (St w w.heap.size IX [(A4.heap.size,h.map B,144)]) (EW.change 0 aF oE ae ab);have II:A4.heap.size<IX.heap.size:=by rw[oE.size];exact aB
  go_wp2_with (at_make;refine wpList_make_own _ rfl _ _ 23 rfl IX.heap.size 5 aS (.int .u8 0) 1 underlying23 NK.1 NK.2.1 NK.2.2.1 _ _ _ (n+16) rfl rfl ?m1 ?m2 ?m3 (zab _) ?_);case m1=>simp
  case m2=>rw[NK.2.2.2];omega
  case m3=>unfold maxLen;omega
  intro MF I4 NN;have NO:=zc I4;have sy:Below IX.heap.size IX MF:=(Below.refl IX.heap.size IX).grown NN (zab _) (λk h=>by cases h);refine aex ?_;intro EW;have aT:=sy.size;clear NN sy;go_wp2;exact rD.intro A4.heap.size IX.heap.size _ 0 _ 0 (n+1) [] rfl aU II rfl ae ae ae ⟨rfl,uY.2⟩ NO EW aT
 ·rintro x oU⟨a0i,a4A,NU,S0,m,S1,c,ib,Pe,rfl,a0p,ie,ab9,aba,abb,a4C,a6q,I9,EW,a6D⟩;by_cases ah:n<=m
  ·have aN:decide ((m:Int)>=(n:Int))=true:=bq;have hs:=λw=>ZS (P:=pgm) w 23 5 1 underlying23 zm S0 m S1 n ae;have EM:=ha_ (Pe.take n=Ka k (rowOf ss) n/\True) ⟨by rw[uY.1,<-a6q.2,Ul _ _ _ _ (by rw[a6q.1];exact ah)],trivial⟩;have I9:=zc (GI I9 ah);go_wp2;go_ret2;refine⟨_,rfl,?_,EW.bel⟩;rw[<-EM.1,zbW];exact yt I9 ae
  ·have aN:decide ((m:Int)>=(n:Int))=false:=by simp;omega
   obtain⟨ib,rfl⟩:∃g,ib=g+1:=⟨ib-1,ae⟩
   have abc:=t_ ab9;have eA:(m:Int)/16=(c:Int):=ae;have az:c<=1000:=ae;clear ab9;go_wp2_with (refine EW.g0.zdS rfl rfl rfl zd PX ?_);refine(rB h c _ PW.2 az).mono ?_;rintro e A4⟨rfl,sy⟩;have I7:=zc (XR h c);have a5f:=ha_ (YS k h n ib (Pe++zfy k 3 (zeK h c))=An/\True) ⟨by
    have ag:=a6q.2;rw[YS,if_neg (by rw[a6q.1];exact ah),a6q.1,abc.1,Nat.mul_div_cancel_left c ae] at ag;exact ag,trivial⟩
   generalize zeK h c=x at*;refine aiM ?_;intro I9 EW;have aU:=zat a6D sy.size;clear eA;go_wp2_with fail;refine(bj kp q p 3 k x _ (MM.later EW.bel) ae I7).mono ?_;rintro e Ev⟨rfl,sy⟩;have Io:=zc (xE k 3 x);have EF:=l_ (zfy k 3 x) 16 Io;generalize zfy k 3 x=er at*;refine aiM ?_;intro I9 EW;have aV:=zat aU sy.size;have Nb:=EW.ne _ (zad (i:=0) rfl);simp only at Nb;go_wp2_with (refine aqB ?_);intro IX aF sy;have I9:=zc (zo I9 sy);have EW:=zc (EW.push aF sy);have aU:=zat aV sy.size;have II:=aF.lt;go_wp2_with (refine EW.g0.zdP rfl rfl rfl (cs:=er.map B) rfl zd ga EF (zj _) ?_);intro MF aF oE;have I9:=zc (zD I9 EW.g0 bd oE);have EW:=zc (EW.change 0 aF oE ae bq);have aT:a4A<=MF.heap.size:=by rw[oE.size];exact aU
   have MJ:Ev.heap.size<MF.heap.size:=by rw[oE.size];exact II
   generalize Ev.heap.size=abd at*;go_wp2_with (at_builtin;refine z8 rfl (.tmp 41) (.tmp 42) 23 rfl a4A 5 aS (.int .u8 0) 1 underlying23 NK.1 NK.2.1 NK.2.2.1 NK.2.2.2 rfl _ m (Pe.map B) rfl I9 (some ⟨abd,0,none⟩) 16 16 (er.map B) rfl EF EW.g0.lies (wG _) ew ae aT ?_);intro aK A4 I4 oG;have sy:Below a4A MF A4:=zU (Below.refl a4A MF) I9 oG (zab _) aT;have EW:=ha_ (St w w.heap.size A4 [(a0i,h.map B,144)]) ((EW.sub (L':=[(a0i,h.map B,144)]) (by intro e aJ;simp at aJ;subst aJ;simp)).low sy ae (by intro e aJ;simp at aJ;subst aJ;exact ie));obtain⟨eT,iy,rfl,az,_,_⟩:=zz I4;have I9:=ha_ (A4.ownsRow a4A 5 1 (.slice eT (m+16) iy) (m+16) ((Pe++er).map B)) (by rw[zaD];exact I4);have a4E:=ha_ ((Pe++er).length=m+16) (by rw[zac,a6q.1,Io.o]);have aU:=zat aT sy.size;clear oG sy;go_wp2;refine wp_goto ⟨rfl,rD.intro a0i a4A eT (m+16) iy (c+1) ib (Pe++er) rfl a0p ie (by have:=abc.1;omega) ae ae az ⟨a4E,a5f.1⟩ I9 EW aU,?_⟩;simp[X3];omega
def xB.ez{k:zx}(h:xB w cp (.aez k)):∃kp q p,lQ w cp kp q p k:=by obtain⟨aK,⟨kp,q,p,rfl,aQ⟩,aF⟩:=h;exact⟨kp,q,p,aQ,aF⟩
def LV(cp:Nat)(k:zx)(ao:OA)(N cap n:Nat)(ss:List Str)(w:World)(hk:xB w cp (.aez k))(hN:ss.length=N)(hN1:N<=500)(hs:yI w ao ss)(hlen:∀s∈ss,s.bs.length<=10000)(hn:n<=10000):Ca_ 97 #[pa_ cp,.slice ao N cap,.int .i64 n] w λe w'=>∃v,e=.returned (.tuple #[v,.int .i64 0])/\w'.ownsRow w.heap.size 5 1 v n ((Ka k (rowOf ss) n).map B)/\Below w.heap.size w w':=by obtain⟨a8c,ey,ox,hk⟩:=hk.ez;refine ajJ hk hN hs ?_;intro MM Ii P7;have A2:=zc hlen;refine aeC ?_;intro EW;clear hk hN hs hlen;go_enter func97,ntmps97;go_wp2_with fail;refine(Bc cp a8c ey ox k _ MM).mono ?_;refine aio ?_;intro A4 sy EW;have aT:=EW.size;go_wp2_with (refine aqJ ?_);refine am7 ?_;intro A4 aF sy EW aB;go_wp2_with (refine EW.g0.zdP rfl rfl rfl (cs:=[.pointer (some ⟨a8c,0,none⟩)]) rfl kH rfl rfl eu ?_);intro A4 aF oE;refine agL ?_;intro EW;have az:=EW.g0.cell 0 _ rfl;go_wp2_with fail;refine(zjv a8c ey ox k ao N cap n ss _ (MM.later EW.bel).key Ii hN1 (P7.below EW.bel) A2 hn).mono ?_;exact aj8
structure rE(w:World)(bc br bt cp:Nat)(k:zx)(g N cap t:Nat)(ss:List Str):Prop where
 c:Blk w bc [.pointer (some ⟨cp,0,none⟩)] 60
 r:Blk w br [.slice (some ⟨g,0,none⟩) N cap] 93
 tt:Blk w bt [.int .i64 t] 3
 zfx:xB w cp (.aez k)
 len:ss.length=N
 few:N<=500
 strs:yI w (some ⟨g,0,none⟩) ss
 lens:∀s∈ss,s.bs.length<=10000
 most:t<=10000
def rE.later{k:zx}(h:rE w bc br bt cp k g N cap t ss)(hb:Below w.heap.size w w'):rE w' bc br bt cp k g N cap t ss :=
 ⟨h.c.below hb h.c.lt,h.r.below hb h.r.lt,h.tt.below hb h.tt.lt,h.zfx.later hb,h.len,h.few,h.strs.below hb,h.lens,h.most⟩
structure mz(w:World)(bc br cp:Nat)(k:yo)(ao:OA)(n cap:Nat)(t:La_):Prop where
 c:Blk w bc [.pointer (some ⟨cp,0,none⟩)] 60
 r:Blk w br [.slice ao n cap] 23
 zfx:xB w cp k
 len:t.length=n
 le:n<=cap
 most:n<=10000
 lies:zr w ao (t.map B)
def mz.later{t:La_}(h:mz w bc br cp k ao n cap t)(hb:Below w.heap.size w w'):mz w' bc br cp k ao n cap t :=
 ⟨h.c.below hb h.c.lt,h.r.below hb h.r.lt,h.zfx.later hb,h.len,h.le,h.most,h.lies.below hb⟩
def Way(F p1 p2 least:Nat)(E:La_->La_)(w:World):Prop :=
 ∀(bo:OA)(n cb:Nat)(m:La_),m.length=n->least<=n->n<=20000->n<=cb->zr w bo (m.map B) ->
  Calls pgm F #[.slice bo n cb,.pointer (some ⟨p1,0,none⟩),.pointer (some ⟨p2,0,none⟩)] w λe w'=>∃v,e=.returned (.tuple #[v,.int .i64 0])/\w'.ownsRow w.heap.size 5 1 v n ((E m).map B)/\Below w.heap.size w w'
def rF(F p1 p2 least:Nat)(w:World):Prop :=
 ∀(bo:OA)(n cb:Nat),n<least->Calls pgm F #[.slice bo n cb,.pointer (some ⟨p1,0,none⟩),.pointer (some ⟨p2,0,none⟩)] w λe w'=>e=.returned (.tuple #[.slice none 0 0,.int .i64 7])/\w=w'
def GJ{k:zx}(hc:rE w bc br bt cp k g N cap t ss):Way 93 bc br 1 (λm=>ze6 k (rowOf ss) m false) w:=by intro MQ Ep abe m aD ag aM abf aR;obtain⟨a8c,ey,ox,aQ⟩:=hc.zfx.ez;have SW:=zc (Bd cp a8c ey ox k (some ⟨g,0,none⟩) N cap ss MQ Ep abe m false w aQ hc.len hc.few hc.strs hc.lens aD ag aM abf aR);have az:=hc.c.cell 0 _ rfl;have az:=hc.r.cell 0 _ rfl;clear aQ hc aR aD;go_enter func93,ntmps93;exact an8
def GK{k:zx}(hc:rE w bc br bt cp k g N cap t ss):Way 95 bc br 1 (λm=>ze6 k (rowOf ss) m true) w:=by intro MQ Ep abe m aD ag aM abf aR;obtain⟨a8c,ey,ox,aQ⟩:=hc.zfx.ez;have SW:=zc (Bd cp a8c ey ox k (some ⟨g,0,none⟩) N cap ss MQ Ep abe m true w aQ hc.len hc.few hc.strs hc.lens aD ag aM abf aR);have az:=hc.c.cell 0 _ rfl;have az:=hc.r.cell 0 _ rfl;clear aQ hc aR aD;go_enter func95,ntmps95;exact an8
def rG{k:zx}(hc:rE w bc br bt cp k g N cap t ss):Ca_ 96 #[pa_ bc,pa_ br,pa_ bt] w λe w'=>∃v,e=.returned v/\w'.ownsRow w.heap.size 5 1 v t ((Ka k (rowOf ss) t).map B)/\Below w.heap.size w w':=by have SW:=zc (LV cp k (some ⟨g,0,none⟩) N cap t ss w hc.zfx hc.len hc.few hc.strs hc.lens hc.most);have az:=hc.c.cell 0 _ rfl;have az:=hc.r.cell 0 _ rfl;have az:=hc.tt.cell 0 _ rfl;clear hc;go_enter func96,ntmps96;go_wp2_with fail;refine SW.mono ?_;rintro e A4⟨aK,rfl,I4,sy⟩;have I9:=zc I4;have uX:=zc sy;go_wp2;go_ret;exact⟨_,rfl,I9,uX⟩
def GL{t:La_}(hc:mz w bc br cp k ao n0 cap t):Way 99 bc br k.least (λm=>xG k t m false) w:=by intro MQ Ep abe m aD ag aM abf aR;have SW:=zc (Bm cp k ao n0 cap t MQ Ep abe m w hc.zfx hc.len hc.most hc.le hc.lies aD ag aM abf aR);have az:=hc.c.cell 0 _ rfl;have az:=hc.r.cell 0 _ rfl;clear hc aR aD ag;go_enter func99,ntmps99;exact an8
def GM{t:La_}(hc:mz w bc br cp k ao n0 cap t):Way 100 bc br k.least (λm=>xG k t m true) w:=by intro MQ Ep abe m aD ag aM abf aR;have SW:=zc (mf cp k ao n0 cap t MQ Ep abe m w hc.zfx hc.len hc.most hc.le hc.lies aD ag aM abf aR);have az:=hc.c.cell 0 _ rfl;have az:=hc.r.cell 0 _ rfl;clear hc aR aD ag;go_enter func100,ntmps100;exact an8
def rH{t:La_}(hc:mz w bc br cp k ao n0 cap t):rF 99 bc br k.least w:=by intro MQ Ep abe ag;have SW:=zc (Ub cp k ao n0 cap MQ Ep abe w hc.zfx ag);have az:=hc.c.cell 0 _ rfl;have az:=hc.r.cell 0 _ rfl;clear hc ag;go_enter func99,ntmps99;exact anq
def rI{t:La_}(hc:mz w bc br cp k ao n0 cap t):rF 100 bc br k.least w:=by intro MQ Ep abe ag;have SW:=zc (Uc cp k ao n0 cap MQ Ep abe w hc.zfx ag);have az:=hc.c.cell 0 _ rfl;have az:=hc.r.cell 0 _ rfl;clear hc ag;go_enter func100,ntmps100;exact anq
def rJ:(pgm.info? 23).map (·.zero)=some (some (.slice none 0 0)):=e0
def rK:(pgm.info? 23).map (·.size)=some 1:=e0
def Um(bc br:Nat):Lb_:=[.func (.func 99) #[] #[.pointer (some ⟨bc,0,none⟩),.pointer (some ⟨br,0,none⟩)],.func (.func 100) #[] #[.pointer (some ⟨bc,0,none⟩),.pointer (some ⟨br,0,none⟩)],.nilFunc]
def cM(t:Int)(n a:Value)(w:World):C_b 74 #[.pointer none,.int .i64 t,n,a] w (.tuple #[.agg #[.nilFunc,.nilFunc,.nilFunc],.int .i64 2]):=by refine aeC ?_;intro EW;go_enter func74,ntmps74;go_wp2_with (refine zh 60 _ ([.pointer none]) _ rfl rfl rfl rfl ?_);refine am7 ?_;intro A4 aF sy EW aB;go_wp2_with (refine HP ?_);refine am7 ?_;intro A4 aF sy EW aB;go_wp2_with (refine aqV ?_);refine am7 ?_;intro A4 aF sy EW aB;have az:=EW.g2.cell 0 _ rfl;go_wp2_with (refine HR ?_);intro A4 aF oE;have uX:=zc (zi EW.bel oE (by have:=EW.size;omega));go_wp2;exact aF.ze1 rfl rfl rfl rfl yx rfl ⟨rfl,uX⟩
def gn(cp:Nat)(t:Int)(n a:Value)(w:World)(ht:YK t=4):C_b 74 #[pa_ cp,.int .i64 t,n,a] w (.tuple #[.agg #[.nilFunc,.nilFunc,.nilFunc],.int .i64 4]):=by refine aeC ?_;intro EW;go_enter func74,ntmps74;go_wp2_with (refine aqW ?_);refine am7 ?_;intro A4 aF sy EW aB;go_wp2_with (refine HP ?_);refine am7 ?_;intro A4 aF sy EW aB;go_wp2_with (refine aqV ?_);refine am7 ?_;intro A4 aF sy EW aB;have az:=EW.g2.cell 0 _ rfl;have az:=EW.g1.cell 0 _ rfl;go_wp2_with fail;refine(mu t n a _ ht).mono ?_;rintro ai A4⟨rfl,rfl⟩;have aT:=EW.size;go_wp2_with (refine zf 93 [.slice none 0 0] _ rfl rfl YG rfl ?_);refine anw EW ?_;intro A4 aF sy EW PY;go_wp2_with (refine EW.g0.zfI 0 (.slice none 0 0) rfl rfl rfl rfl YH rfl rfl ab ?_);intro A4 Ew oE;have EW:=zc (EW.change 0 Ew oE ae bq);go_wp2_with (refine EW.g1.zdP rfl rfl rfl (cs:=[.nilFunc,.nilFunc,.nilFunc]) rfl yx rfl rfl eu ?_);intro A4 aF oE;have uX:=zc (zi EW.bel oE ae);go_wp2;exact aF.ze1 rfl rfl rfl rfl yx rfl ⟨rfl,uX⟩
def J8(cp:Nat)(k:zx)(t:Nat)(no:OA)(nn nc:Nat)(zdR:La_)(ado:OA)(N adc:Nat)(ss:List Str)(w:World)(hc:xB w cp (.aez k))(ht:t<=16)(hn:zdR.length=nn)(hnb:nn<=5000)(hl:zr w no (zdR.map B))(hN:ss.length=N)(hNb:N<=20)(hs:yI w ado ss)(hsb:∀s∈ss,s.bs.length<=10000):Ca_ 74 #[pa_ cp,.int .i64 t,.slice no nn nc,.slice ado N adc] w λe w'=>∃bc br bt g cap sts,e=.returned (.tuple #[.agg (VI bc br bt).toArray,.int .i64 0])/\rE w' bc br bt cp k g (2+N) cap t sts/\rowOf sts=xZ t zdR (rowOf ss)/\Below w.heap.size w w':=by
 have SW:=zc hc;refine af6 ?_;intro Nl A0;refine ajJ hN hs hsb ?_;intro Ii a0f a0L;refine aeC ?_;intro EW;clear hc hn hl hN hs hsb;go_enter func74,ntmps74;go_wp2_with (refine aqW ?_);refine am7 ?_;intro A4 aF sy EW aB;go_wp2_with (refine HP ?_);refine amb ?_;intro Ev aF sy EW aB;go_wp2_with (refine aqV ?_);refine amg ?_;intro IX aF sy EW aB;generalize M1:w.heap.size=MN at*;generalize A4.heap.size=Nh at*;generalize Ev.heap.size=R1 at*;have IZ:=zc M1;clear M1;have az:=EW.g2.cell 0 _ rfl;have AV:=EW.g1.cell 0 _ rfl;go_wp2_with fail;refine(Ww t no nn nc zdR ado N adc ss _ ht Nl ae (A0.below (EW.old IZ)) Ii ae (a0f.below (EW.old IZ)) a0L).mono ?_;rintro e A4⟨g,cap,sts,rfl,aR,abg,a6i,sy⟩;refine aex ?_;intro EW;have P7:=zc a6i;have abh:=zc abg;have a0H:=t_ aR;have a9M:=ha_ (∀s∈sts,s.bs.length<=10000) (by
  intro s hs;have:s.bs∈rowOf sts:=zaz.2 ⟨s,hs,rfl⟩;rw[abg] at this;unfold xZ at this;rcases zau.1 this with h|h
  ·rw[h];simp[zg]
  ·rcases zau.1 h with h|h
   ·rw[h,Nl.o];omega
   ·obtain⟨ej,eg,e⟩:=zaz.1 h;rw[<-e];exact a0L ej eg)
 clear aR abg a6i az AV;have aT:=EW.size;have aT:R1<A4.heap.size:=EW.g0.lt;go_wp2_with (refine zf 93 [.slice none 0 0] _ rfl rfl YG rfl ?_);intro Ev aF sy;have EW:=zc (EW.push aF sy);have uX:=zc sy;have PY:=aF.lt;go_wp2_with (refine EW.g0.zfI 0 (.slice (some ⟨g,0,none⟩) (2+N) cap) rfl rfl rfl rfl YH rfl rfl ab ?_);intro MF aF oE;have P7:=zc (P7.below (zi uX oE (zab _)));have EW:=ha_ (St w MN MF [(A4.heap.size,[.slice (some ⟨g,0,none⟩) (2+N) cap],93),(R1,[.nilFunc,.nilFunc,.nilFunc],134),(Nh,[.int .i64 t],3),(MN,[.pointer (some ⟨cp,0,none⟩)],60)]) (EW.change 0 aF oE ae bq);generalize A4.heap.size=R2 at*;have az:=(EW.get 3 rfl).cell 0 _ rfl;have a1L:Calls pgm 92 #[.pointer (some ⟨cp,0,none⟩)] MF λe w'=>e=.returned (.int .i64 3)/\MF=w':=Bl cp (.aez k) _ (SW.later (EW.old IZ));have a1L:=zc a1L;go_wp2_with fail;refine a1L.mono ?_;rintro e A4⟨rfl,rfl⟩;go_wp2_with (refine EW.g1.zdP rfl rfl rfl (cs:=VI MN R2 Nh) rfl yx rfl rfl (Jc _ _ _) ?_);intro A4 aF oE;have uX:=zc (zi EW.bel oE ae);have P7:=zc (P7.only EW.g1 (by simp[Str.val]) ab oE);have EE:=ha_ (rE A4 MN R2 Nh cp k g (2+N) cap t sts) ⟨(EW.get 3 rfl).only oE ae,EW.g0.only oE ae,EW.g2.only oE ae,SW.later vb,a0H.1,ae,P7,a9M,ae⟩;go_wp2;exact aF.ze1 rfl rfl rfl rfl yx rfl ⟨MN,R2,Nh,g,cap,sts,rfl,EE,abh,vb⟩
def cN(cp:Nat)(k:yo)(t:Nat)(no:OA)(nn nc:Nat)(zdR:La_)(ado:OA)(N adc:Nat)(ss:List Str)(w:World)(hc:xB w cp k)(h3:k.alg≠3)(ht:t<=16)(hn:zdR.length=nn)(hnb:nn<=5000)(hnc:nn<=nc)(hl:zr w no (zdR.map B))(hN:ss.length=N)(hNb:N<=20)(hs:yI w ado ss)(hsb:∀s∈ss,s.bs.length<=10000)(hcl:(JL t zdR (rowOf ss)).length<=10000):Ca_ 74 #[pa_ cp,.int .i64 t,.slice no nn nc,.slice ado N adc] w λe w'=>∃bc br ao n cap,e=.returned (.tuple #[.agg (Um bc br).toArray,.int .i64 0])/\mz w' bc br cp k ao n cap (JL t zdR (rowOf ss))/\Below w.heap.size w w':=by have SW:=zc hc;refine af6 ?_;intro Nl A0;refine ajJ hN hs hsb ?_;intro Ii a0f a0L;refine aeC ?_;intro EW;have aN:((k.alg:Int)==3)=false:=bq;obtain⟨abi,abj⟩:=n_ (JL t zdR (rowOf ss));have a0r:=s_ abj;rw[<-abj] at hcl |-;clear hc hn hl hN hs hsb h3 abj;go_enter func74,ntmps74;go_wp2_with (refine aqW ?_);refine am7 ?_;intro A4 aF sy EW aB;go_wp2_with (refine HP ?_);refine amb ?_;intro Ev aF sy EW aB;go_wp2_with (refine aqV ?_);refine amg ?_;intro IX aF sy EW aB;generalize M1:w.heap.size=MN at*;generalize A4.heap.size=Nh at*;generalize Ev.heap.size=R1 at*;have IZ:=zc M1;clear M1;have az:=EW.g2.cell 0 _ rfl;have AV:=EW.g1.cell 0 _ rfl;go_wp2_with fail;refine(Ww t no nn nc zdR ado N adc ss _ ht Nl ae (A0.below (EW.old IZ)) Ii ae (a0f.below (EW.old IZ)) a0L).mono ?_;rintro e A4⟨ie,cap,abk,rfl,_,_,_,sy⟩;refine aex ?_;intro EW;clear az AV;have aT:=EW.size;have aT:R1<A4.heap.size:=EW.g0.lt;go_wp2_with (refine zf 93 [.slice none 0 0] _ rfl rfl YG rfl ?_);refine anw EW ?_;intro Ev aF sy EW PY;go_wp2_with (refine EW.g0.zfI 0 (.slice (some ⟨ie,0,none⟩) (2+N) cap) rfl rfl rfl rfl YH rfl rfl ab ?_);intro Ev Ew oE;have EW:=ha_ (St w MN Ev [(A4.heap.size,[.slice (some ⟨ie,0,none⟩) (2+N) cap],93),(R1,[.nilFunc,.nilFunc,.nilFunc],134),(Nh,[.int .i64 t],3),(MN,[.pointer (some ⟨cp,0,none⟩)],60)]) (EW.change 0 Ew oE ae bq);generalize A4.heap.size=R2 at*;have az:=(EW.get 3 rfl).cell 0 _ rfl;have AV:=EW.g2.cell 0 _ rfl;go_wp2_with fail;refine(Bl cp k _ (SW.later (EW.old IZ))).mono ?_;rintro e A4⟨rfl,rfl⟩;go_wp2_with fail;refine(Uk t no nn nc zdR ado N adc ss _ ht Nl hnb hnc (A0.below (EW.old IZ)) Ii hNb (a0f.below (EW.old IZ)) a0L).mono ?_;rw[a0r.1];rintro e A4⟨eT,iy,rfl,AW,aR,sy⟩;have ER:=zc aR;refine aex ?_;intro EW;clear aR az AV;have aT:=EW.size;have a6w:=EW.ne _ (zad (i:=0) rfl);simp only at a6w;go_wp2_with (refine zf 23 [.slice none 0 0] _ rfl rfl rJ rfl ?_);intro Ev aF sy;have EW:=zc (EW.push aF sy);have uX:=zc sy;have aB:=aF.lt;go_wp2_with (refine EW.g0.zfI 0 (.slice eT abi.length iy) rfl rfl rfl rfl rK rfl rfl ab ?_);intro Ev aF Oo;have ER:=zc (ER.below (zi uX Oo (zab _)));have EW:=ha_ (St w MN Ev [(A4.heap.size,[.slice eT abi.length iy],23),(R2,[.slice (some ⟨ie,0,none⟩) (2+N) cap],93),(R1,[.nilFunc,.nilFunc,.nilFunc],134),(Nh,[.int .i64 t],3),(MN,[.pointer (some ⟨cp,0,none⟩)],60)]) (EW.change 0 aF Oo ae bq);generalize A4.heap.size=R3 at*;go_wp2_with (refine EW.g2.zdP rfl rfl rfl (cs:=Um MN R3) rfl yx rfl rfl (by simp[Um,Value.oneCell']) ?_);intro A4 aF Oo;have uX:=zc (zi EW.bel Oo ae);have EE:=ha_ (mz A4 MN R3 cp k eT abi.length iy abi) ⟨(EW.get 4 rfl).only Oo ae,EW.g0.only Oo ae,SW.later vb,rfl,AW,hcl,ER.only EW.g2 (by intro ef aH NP;obtain⟨er,_,rfl⟩:=zaz.1 aH;simp at NP) Oo⟩;go_wp2;exact aF.ze1 rfl rfl rfl rfl yx rfl ⟨MN,R3,eT,abi.length,iy,rfl,EE,vb⟩
def XK(F1 F2 p1 p2:Nat)(nn:Value):Lb_:=[.func (.func F1) #[] #[.pointer (some ⟨p1,0,none⟩),.pointer (some ⟨p2,0,none⟩)],.func (.func F2) #[] #[.pointer (some ⟨p1,0,none⟩),.pointer (some ⟨p2,0,none⟩)],nn]
def XL{F1 F2 p1 p2:Nat}{nn:Value}(h:nn.oneCell'=true):∀v∈XK F1 F2 p1 p2 nn,v.oneCell'=true:=by
 intro v aL;simp only[XK,zau,List.not_mem_nil,or_false] at aL;rcases aL with rfl|rfl|rfl
 ·rfl
 ·rfl
 ·exact h
def Zv(w:World):(binOp .neq 132 .nilFunc .nilFunc).run pgm w=.ok (.bool false) w:=e0
def enters{F:Nat}{fn:Func}{c:Code}(hf:pgm.funcs[F]? = some fn)(hn:(fn.name=="runtime.NumGoroutine")=false)(hb:fn.body=some c)(args:Array Value)(w:World):(callFunc F args).run pgm w=.ok (.enter F args) w:=by
 have ag:fn.name≠"runtime.NumGoroutine":=by simpa using hn
 simp[callFunc,hf,ag,hb]
def gp(cv nv av mv:Value)(t c:Int)(w:World)(hc:c≠0)(hb:Ca_ 74 #[cv,.int .i64 t,nv,av] w λe w'=>e=.returned (.tuple #[.agg #[.nilFunc,.nilFunc,.nilFunc],.int .i64 c])/\Below w.heap.size w w'):Ca_ 47 #[cv,.int .i64 t,nv,av,mv] w λe w'=>e=.returned (.tuple #[.slice none 0 0,.int .i64 c])/\Below w.heap.size w w':=by have uX:=zc hb;refine aeC ?_;intro EW;have aN:(c != 0)=true:=bq;clear hb hc;go_enter func47,ntmps47;go_wp2_with fail;refine uX.mono ?_;refine aio ?_;intro A4 sy EW;have aT:=EW.size;go_wp2_with (refine aqX ?_);intro A4 hb sy;have EW:=zc (EW.push hb sy);go_wp2_with (refine HR ?_);intro A4 aF oE;have SM:=zc (zi EW.bel oE aT);go_wp2;go_ret2;exact ak9 SM
def VP(cv nv av:Value)(t:Nat)(bo:OA)(mn mc:Nat)(m:La_)(F1 F2:Nat)(R:World->Value->Int->World->Prop)(w:World)(ht:t<=16)(hm:m.length=mn)(hmm:mn<=15000)(hmc:mn<=mc)(hlm:zr w bo (m.map B))(hF:∀args w,(callFunc F1 args).run pgm w=.ok (.enter F1 args) w)(hb:Ca_ 74 #[cv,.int .i64 t,nv,av] w λe w'=>∃p1 p2 nn,e=.returned (.tuple #[.agg (XK F1 F2 p1 p2 nn).toArray,.int .i64 0])/\(mn=0->nn=.nilFunc)/\nn.oneCell'=true /\
   (∀w'' bo' cb',Below w'.heap.size w' w''->mn+t<=cb'->zr w'' bo' ((m++zg t).map B)->Ca_ F1 #[.slice bo' (mn+t) cb',pa_ p1,pa_ p2] w'' λe w3=>∃v c,e=.returned (.tuple #[v,.int .i64 c])/\R w'' v c w3/\Below w''.heap.size w'' w3)/\Below w.heap.size w w'):Ca_ 47 #[cv,.int .i64 t,nv,av,.slice bo mn mc] w λe w'=>∃w'' v c,e=.returned (.tuple #[v,.int .i64 c])/\R w'' v c w'/\Below w.heap.size w w''/\Below w.heap.size w w':=by
 refine ajJ hb hm hlm ?_;intro a2n PK P5;refine aeC ?_;intro EW;clear hb hm hlm;go_enter func47,ntmps47;generalize M1:w.heap.size=MN at*;have IZ:=zc M1;clear M1;go_wp2_with fail;refine a2n.mono ?_;rintro e A4⟨p1,p2,nn,rfl,oV,a9p,abl,sy⟩;have abm:=zc abl;have EH:=zc a9p;have Ii:=zc oV;have EW:=zc (EW.later (by rw[IZ.o];exact sy));have aT:=EW.size;clear abl a9p oV;go_wp2_with (refine aqX ?_);intro Ev hb sy;have EW:=zc (EW.push hb sy);have uX:=zc sy;have aB:=hb.lt;go_wp2_with (refine EW.g0.zdP rfl rfl rfl (cs:=XK F1 F2 p1 p2 nn) rfl yx rfl rfl (XL EH) ?_);intro w3 aF oE;have MY:=zc (zi uX oE (zab _));refine agL ?_;intro EW;have aU:=MY.size;obtain⟨ax,Ew⟩:=n_ A4.heap.size;rw[<-Ew] at EW;have uX:=zc Ew;have az:=EW.g0.cell 2 _ rfl;have I6:=λ(y:zL w3.drew)=>((EW.drew.later y.later).get 0 rfl).cell 0 _ rfl;by_cases ag:mn=0
 ·have aD:=Ii.o ag;subst aD;have aN:((mn:Int)==0)=true:=bq;exact ass
 ·have aN:((mn:Int)==0)=false:=by simp;omega
  exact ass
def rL:∀args w,(callFunc 93 args).run pgm w=.ok (.enter 93 args) w:=enters func93 e0 rfl
def rM:∀args w,(callFunc 95 args).run pgm w=.ok (.enter 95 args) w:=enters func95 e0 rfl
def Wx:∀args w,(callFunc 99 args).run pgm w=.ok (.enter 99 args) w:=enters func99 e0 rfl
def Wy:∀args w,(callFunc 100 args).run pgm w=.ok (.enter 100 args) w:=enters func100 e0 rfl
structure Ctx(w:World)(cp:Nat)(k:yo)(t:Nat)(no:OA)(nn nc:Nat)(zdR:La_)(ado:OA)(N adc:Nat)(ss:List Str):Prop where
 zfx:xB w cp k
 t16:t<=16
 zho:zdR.length=nn
 zfV:nn<=5000
 zfc:nn<=nc
 zfW:zr w no (zdR.map B)
 zhp:ss.length=N
 zfX:N<=20
 strs:yI w ado ss
 lens:∀s∈ss,s.bs.length<=10000
 ctx:(JL t zdR (rowOf ss)).length<=10000
def Ctx.later(h:Ctx w cp k t no nn nc zdR ado N adc ss)(hb:Below w.heap.size w w'):Ctx w' cp k t no nn nc zdR ado N adc ss :=
 ⟨h.zfx.later hb,h.t16,h.zho,h.zfV,h.zfc,h.zfW.below hb,h.zhp,h.zfX,h.strs.below hb,h.lens,h.ctx⟩
def GN(h:k.alg≠3)(t:Nat)(zdR:La_)(ad:List (La_))(m:La_):XW k t zdR ad m=xG k (JL t zdR ad) (m++zg t) false:=by
 cases k with
 | adi k=>rfl
 | hct k=>rfl
 | aez k=>exact absurd rfl h
def GO(bo:OA)(mn mc:Nat)(m:La_)(w:World)(hc:Ctx w cp k t no nn nc zdR ado N adc ss)(h3:k.alg≠3)(hm:m.length=mn)(hmm:mn<=15000)(hmc:mn<=mc)(hlm:zr w bo (m.map B))(hr:k.least<=mn+t):Ca_ 47 #[pa_ cp,.int .i64 t,.slice no nn nc,.slice ado N adc,.slice bo mn mc] w λe w'=>∃v,e=.returned (.tuple #[v,.int .i64 0])/\w'.ownsRow w.heap.size 5 1 v (mn+t) ((XW k t zdR (rowOf ss) m).map B)/\Below w.heap.size w w':=by
 have aW:=hc.t16;refine(VP _ _ _ t bo mn mc m 99 100 (λw'' v c w3=>c=0/\w3.ownsRow w''.heap.size 5 1 v (mn+t) ((XW k t zdR (rowOf ss) m).map B)) w aW hm hmm hmc hlm Wx ((cN cp k t no nn nc zdR ado N adc ss w hc.zfx h3 aW hc.zho hc.zfV hc.zfc hc.zfW hc.zhp hc.zfX hc.strs hc.lens hc.ctx).mono ?_)).mono ?_
 ·rintro e A4⟨a0W,MP,Ny,Ep,oF,rfl,aF,sy⟩;refine⟨a0W,MP,.nilFunc,rfl,λ_=>rfl,rfl,λw'' bo' cb' zgU hcb hl=>?_,sy⟩;refine(GL (aF.later zgU) bo' (mn+t) cb' (m++zg t) (by rw[zac,ze,hm]) hr ae hcb hl).mono ?_;rintro e w3⟨v,rfl,I4,Ey⟩;exact⟨v,0,rfl,⟨rfl,by rw[GN h3];exact I4⟩,Ey⟩
 ·rintro e A4⟨w'',v,c,rfl,⟨rfl,I4⟩,aF,sy⟩;exact⟨v,rfl,yt I4 aF.size,sy⟩
def rN(bo:OA)(mn mc:Nat)(m:La_)(w:World)(hc:Ctx w cp k t no nn nc zdR ado N adc ss)(h3:k.alg≠3)(hm:m.length=mn)(hmm:mn<=15000)(hmc:mn<=mc)(hlm:zr w bo (m.map B))(hr:mn+t<k.least):C_b 47 #[pa_ cp,.int .i64 t,.slice no nn nc,.slice ado N adc,.slice bo mn mc] w (.tuple #[.slice none 0 0,.int .i64 7]):=by
 have aW:=hc.t16;refine(VP _ _ _ t bo mn mc m 99 100 (λw'' v c w3=>v=.slice none 0 0/\c=7) w aW hm hmm hmc hlm Wx ((cN cp k t no nn nc zdR ado N adc ss w hc.zfx h3 aW hc.zho hc.zfV hc.zfc hc.zfW hc.zhp hc.zfX hc.strs hc.lens hc.ctx).mono ?_)).mono ?_
 ·rintro ai A4⟨a0W,MP,Ny,Ep,oF,rfl,aF,sy⟩;refine⟨a0W,MP,.nilFunc,rfl,λ_=>rfl,rfl,λw'' bo' cb' zgU hcb hl=>?_,sy⟩;refine(rH (aF.later zgU) bo' (mn+t) cb' hr).mono ?_;rintro ai w3⟨rfl,rfl⟩;exact⟨_,7,rfl,⟨rfl,rfl⟩,Below.refl _ _⟩
 ·rintro ai A4⟨w'',v,c,rfl,⟨rfl,rfl⟩,aF,sy⟩;exact ak9 sy
def GP{k:zx}(bo:OA)(mn mc:Nat)(m:La_)(w:World)(hc:Ctx w cp (.aez k) t no nn nc zdR ado N adc ss)(hm:m.length=mn)(hmm:mn<=15000)(hmc:mn<=mc)(hlm:zr w bo (m.map B))(h0:mn≠0):Ca_ 47 #[pa_ cp,.int .i64 t,.slice no nn nc,.slice ado N adc,.slice bo mn mc] w λe w'=>∃v,e=.returned (.tuple #[v,.int .i64 0])/\w'.ownsRow w.heap.size 5 1 v (mn+t) ((XW (.aez k) t zdR (rowOf ss) m).map B)/\Below w.heap.size w w':=by
 have aW:=hc.t16;have e:XW (.aez k) t zdR (rowOf ss) m=ze6 k (xZ t zdR (rowOf ss)) (m++zg t) false:=by
  show Z4 k _ t m=_;unfold Z4;rw[if_neg (by rintro rfl;exact h0 hm.symm)]
 refine(VP _ _ _ t bo mn mc m 93 95 (λw'' v c w3=>c=0/\w3.ownsRow w''.heap.size 5 1 v (mn+t) ((XW (.aez k) t zdR (rowOf ss) m).map B)) w aW hm hmm hmc hlm rL ((J8 cp k t no nn nc zdR ado N adc ss w hc.zfx aW hc.zho hc.zfV hc.zfW hc.zhp hc.zfX hc.strs hc.lens).mono ?_)).mono ?_
 ·rintro ai A4⟨a0W,MP,a0l,ie,oF,abk,rfl,aF,abg,sy⟩;refine⟨a0W,MP,_,rfl,λh=>absurd h h0,rfl,λw'' bo' cb' zgU hcb hl=>?_,sy⟩;refine(GJ (aF.later zgU) bo' (mn+t) cb' (m++zg t) (by rw[zac,ze,hm]) ae ae hcb hl).mono ?_;rintro ai w3⟨v,rfl,I4,Ey⟩;exact⟨v,0,rfl,⟨rfl,by rw[e,<-abg];exact I4⟩,Ey⟩
 ·rintro ai A4⟨w'',v,c,rfl,⟨rfl,I4⟩,aF,sy⟩;exact⟨v,rfl,yt I4 aF.size,sy⟩
def J9(a b:Value)(bt:Nat)(w:World):(binOp .neq 132 (.func (.func 96) #[] #[a,b,.pointer (some ⟨bt,0,none⟩)]) .nilFunc).run pgm w=.ok (.bool true) w:=e0
def rO{k:zx}(bo:OA)(mc:Nat)(w:World)(hc:Ctx w cp (.aez k) t no nn nc zdR ado N adc ss):Ca_ 47 #[pa_ cp,.int .i64 t,.slice no nn nc,.slice ado N adc,.slice bo 0 mc] w λe w'=>∃v,e=.returned (.tuple #[v,.int .i64 0])/\w'.ownsRow w.heap.size 5 1 v t ((XW (.aez k) t zdR (rowOf ss) []).map B)/\Below w.heap.size w w':=by
 have e:XW (.aez k) t zdR (rowOf ss) []=Ka k (xZ t zdR (rowOf ss)) t:=by
  show Z4 k _ t []=_;unfold Z4;rw[if_pos rfl]
 have EM:=ha_ (XW (.aez k) t zdR (rowOf ss) []=Ka k (xZ t zdR (rowOf ss)) t/\True) ⟨e,trivial⟩;obtain⟨An,eI⟩:=n_ (XW (.aez k) t zdR (rowOf ss) []);rw[<-eI] at EM |-;have SW:=zc hc;refine aeC ?_;intro EW;clear hc e eI;go_enter func47,ntmps47;go_wp2_with fail;refine(J8 cp k t no nn nc zdR ado N adc ss w SW.zfx SW.t16 SW.zho SW.zfV SW.zfW SW.zhp SW.zfX SW.strs SW.lens).mono ?_;rintro e A4⟨a0W,MP,a0l,ie,oF,abk,rfl,aF,abg,sy⟩;have uX:=zc aF;have abh:=t_ abg;refine aiI ?_;intro EW aT;clear abg;go_wp2_with (refine aqX ?_);intro A4 aF sy;have EW:=zc (EW.push aF sy);have EB:=zc sy;go_wp2_with (refine EW.g0.zdP rfl rfl rfl (cs:=VI a0W MP a0l) rfl yx rfl rfl (Jc _ _ _) ?_);intro A4 aF oE;have uX:=zc (uX.later (zi EB oE (zab _)));refine agL ?_;intro EW;have az:=EW.g0.cell 2 _ rfl;have eA:=J9 (.pointer (some ⟨a0W,0,none⟩)) (.pointer (some ⟨MP,0,none⟩)) a0l;go_wp2_with fail;refine(rG uX).mono ?_;rintro e A4⟨aK,rfl,I4,sy⟩;rw[abh.1,<-EM.1] at I4;have I9:=zc (yt I4 EW.size);refine aex ?_;intro EW;clear az eA;go_wp2;go_ret2;exact⟨_,rfl,I9,EW.bel⟩
def Out(w':World)(base:Nat)(o:Option (La_))(e:Ending):Prop:=match o with
 | some m=>∃ao,e=.returned (.tuple #[.slice ao m.length m.length,.int .i64 0])/\zr w' ao (m.map B)/\(0<m.length->∃g tl,ao=some ⟨g,0,none⟩/\base<=g/\Blk w' g (m.map B++tl) 5)
 | none=>e=.returned (.tuple #[.slice none 0 0,.int .i64 9])
def gq(cv nv av mv:Value)(t c:Int)(w:World)(hc:c≠0)(hb:Ca_ 74 #[cv,.int .i64 t,nv,av] w λe w'=>e=.returned (.tuple #[.agg #[.nilFunc,.nilFunc,.nilFunc],.int .i64 c])/\Below w.heap.size w w'):Ca_ 48 #[cv,.int .i64 t,nv,av,mv] w λe w'=>e=.returned (.tuple #[.slice none 0 0,.int .i64 c])/\Below w.heap.size w w':=by have uX:=zc hb;refine aeC ?_;intro EW;have aN:(c != 0)=true:=bq;clear hb hc;go_enter func48,ntmps48;go_wp2_with fail;refine zN 0 (λ_ _=>False) (λ_ _=>0) rfl ?_ (λ_ _ h=>h.elim);simp only[qb];go_wp2_with fail;refine uX.mono ?_;refine aio ?_;intro A4 sy EW;have aT:=EW.size;go_wp2_with (refine aqX ?_);intro A4 hb sy;have EW:=zc (EW.push hb sy);go_wp2_with (refine HR ?_);intro A4 aF oE;have SM:=zc (zi EW.bel oE aT);go_wp2;rw[Exit.zdZ];go_ret2;exact ak9 SM
def gr(cv nv av:Value)(t:Nat)(bo:OA)(bn bc:Nat)(w:World)(h:bn<t)(ht:t<=16)(hb:Ca_ 74 #[cv,.int .i64 t,nv,av] w λe w'=>∃vs:Lb_,e=.returned (.tuple #[.agg vs.toArray,.int .i64 0])/\vs.length=3/\(∀v∈vs,v.oneCell'=true)/\Below w.heap.size w w'):Ca_ 48 #[cv,.int .i64 t,nv,av,.slice bo bn bc] w λe w'=>e=.returned (.tuple #[.slice none 0 0,.int .i64 9])/\Below w.heap.size w w':=by
 have uX:=zc hb;refine aeC ?_;intro EW;obtain⟨z,aT⟩:∃z:Int,(bn:Int)-(t:Int)=z:=⟨_,rfl⟩
 have aT:z<0:=ae;have aN:decide (z<0)=true:=decide_eq_true aT;have abp:-1000<=z:=ae;clear hb h;go_enter func48,ntmps48;go_wp2_with fail;refine zN 0 (YI True w) (λ_ _=>0) rfl ?_ ?_
 ·simp only[qb];go_wp2_with fail;refine uX.mono ?_;rintro e A4⟨vs,rfl,ag,a9p,sy⟩;have EH:=zc a9p;have A6:=zc ag;refine aiI ?_;intro EW aT;clear ag a9p;go_wp2_with (refine aqX ?_);intro A4 hb sy;have EW:=zc (EW.push hb sy);go_wp2_with (refine EW.g0.zdP rfl rfl rfl (cs:=vs) rfl yx rfl A6 EH ?_);intro A4 aF oE;have SM:=zc (zi EW.bel oE ae);go_wp2;refine wp_goto ⟨rfl,YI.intro rfl trivial SM⟩
 ·rintro ef oU⟨NU,rfl,_,SM⟩;go_wp2;rw[Exit.zdZ];go_ret2;exact ak9 SM
def gu(cv nv av:Value)(t:Nat)(bo:OA)(bn bc:Nat)(r:La_)(F1 F2:Nat)(w:World)(ht:t<=16)(hge:t<=bn)(hbm:bn<=15000)(hrl:r.length=bn)(hF:∀args w,(callFunc F2 args).run pgm w=.ok (.enter F2 args) w)(hb:Ca_ 74 #[cv,.int .i64 t,nv,av] w λe w'=>∃p1 p2 nn,e=.returned (.tuple #[.agg (XK F1 F2 p1 p2 nn).toArray,.int .i64 0])/\(bn=t->nn=.nilFunc)/\nn.oneCell'=true /\
   (∀w'',Below w'.heap.size w' w''->Below w.heap.size w w''->Ca_ F2 #[.slice bo bn bc,pa_ p1,pa_ p2] w'' λe w3=>∃v,e=.returned (.tuple #[v,.int .i64 0])/\w3.ownsRow w''.heap.size 5 1 v bn (r.map B)/\Below w''.heap.size w'' w3)/\Below w.heap.size w w'):Ca_ 48 #[cv,.int .i64 t,nv,av,.slice bo bn bc] w λe w'=>Out w' w.heap.size (if r.drop (bn-t)=zg t then some (r.take (bn-t)) else none) e/\Below w.heap.size w w':=by
 have a2n:=zc hb;have Nv:=zc hrl;refine aeC ?_;intro EW;obtain⟨m,eh⟩:=n_ (bn-t);have ai:(bn:Int)-(t:Int)=(m:Int):=ae;have aN:decide ((m:Int)<0)=false:=ab;have a75:m<=bn:=ae;have PK:=ha_ ((bn=t↔m=0)/\bn-m=t) ⟨ae,ae⟩;have Pf:=ha_ ((r.drop m).length=bn-m) (by rw[List.length_drop,Nv.o]);rw[<-eh];clear hb hrl eh;go_enter func48,ntmps48;go_wp2_with fail;refine zN 0 (YI (¬r.drop m=zg t) w) (λ_ _=>0) rfl ?_ ?_
 ·simp only[qb];go_wp2_with fail;refine a2n.mono ?_;rintro e A4⟨p1,p2,nn,rfl,oV,a9p,abl,sy⟩;have abm:=zc abl;have EH:=zc a9p;have Ii:=ha_ (m=0->nn=.nilFunc) (λh=>oV (PK.1.2 h));refine aiI ?_;intro EW aT;clear abl a9p oV;go_wp2_with (refine aqX ?_);intro Ev hb sy;have EW:=zc (EW.push hb sy);have uX:=zc sy;have aB:=hb.lt;go_wp2_with (refine EW.g0.zdP rfl rfl rfl (cs:=XK F1 F2 p1 p2 nn) rfl yx rfl rfl (XL EH) ?_);intro w3 aF oE;have MY:=zc (zi uX oE (zab _));refine agL ?_;intro EW;obtain⟨ax,aF⟩:=n_ A4.heap.size;rw[<-aF] at EW;have I6:=EW.g0.cell 1 _ rfl;have az:=EW.g0.cell 2 _ rfl;have eA:=Zv;rw[<-aF];clear aF;by_cases h0:m=0;all_goals first|(have aD:=Ii.o h0;subst aD;have d1:((m:Int)==0)=true:=bq)|(have d1:((m:Int)==0)=false:=bq)
  all_goals(clear h0;go_wp2_with fail;refine(abm _ MY (EW.bel)).mono ?_;clear d1)
  all_goals(
   rintro e A4⟨aK,rfl,RV,Eu⟩;have Ts:=zc EW.size;obtain⟨Ny,oF,rfl,P4,_,aR⟩:=zz RV;have I9:=zc RV;have A0:=zc aR;have EW:=zc (EW.later Eu);have eg:=λw=>yF (P:=pgm) w 23 5 1 underlying23 zm Ny bn oF m (m:Int) rfl a75;have eg:=λw=>pG (P:=pgm) w 23 5 1 underlying23 zm Ny bn oF m ae;clear RV aR Eu I6 az eA;go_wp2_with fail;refine aic ?_;rintro A4 rfl;iterate 7 refine m1R ?_
   have EW:=zc EW.drew;have I9:=zc (zo I9 (Below.refl _ _).drew);refine Sm ?_;intro K hK;refine VH 23 5 (.int .u8 0) 1 t rfl rfl rfl underlying23 z5 rfl rfl rfl ae ew (λw6 hb6 zdT=>?_);rw[tq] at hb6;refine hK _ _ zdT ?_;have EW:=zc (EW.later zdT);have I9:=zc (zo I9 zdT);have A0:=zc hb6.lies;clear hK K hb6 zdT;go_simp;refine Pm ?_;intro K hK;refine(Ba (yz Ny oF m) _ (bn-m) t (oF-m) t (r.drop m) (zg t) _ Pf (ze t) ae (zr.ze0 (zr.zef I9) (by rw[Nv.o];exact P4) m) A0).mono ?_;rintro e A4⟨rfl,Eu⟩;have EW:=zc (EW.later Eu);have I9:=zc (zo I9 Eu);by_cases aT:r.drop m=zg t
   ·have a8R:=t_ aT;rw[decide_eq_true aT];clear aT;refine alv ?_;clear hK K Eu;refine afE ?_;go_wp2;rw[Exit.zdZ];go_ret2;rw[if_pos a8R.1];have a4v:(r.take m).length=m:=by rw[zam,Nv.o];omega
    refine⟨⟨Ny,by rw[a4v];rfl,?_,λh0=>?_⟩,EW.bel⟩
    ·have:=(zr.zef I9).take m
     rwa [<-zbW] at this
    ·obtain⟨ie,iy,eC,ai,a8D,hge,_⟩:=rm I9 (by rw[a4v] at h0;omega);cases ai;refine⟨ie,(r.drop m).map B++eC,rfl,by have:=Ts.o;omega,?_⟩;rw[<-List.append_assoc,<-zaD,List.take_append_drop];exact a8D
   ·have a8R:=zc aT;rw[decide_eq_false aT];clear aT;refine alv ?_;clear hK K Eu;refine afE ?_;go_wp2;refine wp_goto ⟨rfl,YI.intro rfl a8R (EW.bel)⟩)
 ·rintro ef oU⟨NU,rfl,a8R,uX⟩;go_wp2;rw[Exit.zdZ];go_ret2;rw[if_neg a8R.o];exact ak9 uX
def rP(cv nv av:Value)(t:Nat)(bo:OA)(bn bc:Nat)(F1 F2:Nat)(w:World)(ht:t<=16)(hge:t<=bn)(hbm:bn<=15000)(hF:∀args w,(callFunc F2 args).run pgm w=.ok (.enter F2 args) w)(hb:Ca_ 74 #[cv,.int .i64 t,nv,av] w λe w'=>∃p1 p2,e=.returned (.tuple #[.agg (XK F1 F2 p1 p2 .nilFunc).toArray,.int .i64 0]) /\
   (∀w'',Below w'.heap.size w' w''->Ca_ F2 #[.slice bo bn bc,pa_ p1,pa_ p2] w'' λe w3=>e=.returned (.tuple #[.slice none 0 0,.int .i64 7])/\w''=w3)/\Below w.heap.size w w'):Ca_ 48 #[cv,.int .i64 t,nv,av,.slice bo bn bc] w λe w'=>e=.returned (.tuple #[.slice none 0 0,.int .i64 9])/\Below w.heap.size w w':=by
 have a2n:=zc hb;refine aeC ?_;intro EW;obtain⟨m,eh⟩:=n_ (bn-t);have ai:(bn:Int)-(t:Int)=(m:Int):=ae;have aN:decide ((m:Int)<0)=false:=ab;clear hb eh;go_enter func48,ntmps48;go_wp2_with fail;refine zN 0 (YI True w) (λ_ _=>0) rfl ?_ ?_
 ·simp only[qb];go_wp2_with fail;refine a2n.mono ?_;rintro e A4⟨p1,p2,rfl,abl,sy⟩;have abm:=zc abl;refine aiI ?_;intro EW aT;clear abl;go_wp2_with (refine aqX ?_);intro Ev hb sy;have EW:=zc (EW.push hb sy);have uX:=zc sy;have aB:=hb.lt;go_wp2_with (refine EW.g0.zdP rfl rfl rfl (cs:=XK F1 F2 p1 p2 .nilFunc) rfl yx rfl rfl (XL rfl) ?_);intro w3 aF oE;have MY:=zc (zi uX oE (zab _));refine agL ?_;intro EW;obtain⟨ax,aF⟩:=n_ A4.heap.size;rw[<-aF] at EW;have I6:=EW.g0.cell 1 _ rfl;have az:=EW.g0.cell 2 _ rfl;have eA:=Zv;rw[<-aF];clear aF;by_cases ag:m=0;all_goals first|(have d1:((m:Int)==0)=true:=(by rw[ag];rfl))|(have d1:((m:Int)==0)=false:=bq)
  all_goals(clear ag;go_wp2_with fail;refine(abm _ MY).mono ?_)
  all_goals(
   rintro e A4⟨rfl,rfl⟩;go_wp2_with fail;refine aic ?_;rintro A4 rfl;refine mqW ?_;refine zq ?_;go_wp2;refine wp_goto ⟨rfl,YI.intro rfl trivial EW.bel.drew⟩)
 ·rintro ef oU⟨NU,rfl,_,uX⟩;go_wp2;rw[Exit.zdZ];go_ret2;exact ak9 uX
def Un{k:zx}(bo:OA)(bc:Nat)(b:La_)(w:World)(hc:Ctx w cp (.aez k) t no nn nc zdR ado N adc ss)(hb:b.length=t)(hlb:zr w bo (b.map B)):Ca_ 48 #[pa_ cp,.int .i64 t,.slice no nn nc,.slice ado N adc,.slice bo t bc] w λe w'=>Out w' w.heap.size (JM (.aez k) t zdR (rowOf ss) b) e/\Below w.heap.size w w':=by
 have abq:=ha_ (JM (.aez k) t zdR (rowOf ss) b=(if b=Ka k (xZ t zdR (rowOf ss)) t then some [] else none)/\True) ⟨by
  show Qh k _ t b=_;unfold Qh;rw[hb,if_neg ae,if_pos rfl],trivial⟩
 obtain⟨An,eI⟩:=n_ (Ka k (xZ t zdR (rowOf ss)) t);have uY:=ha_ (Ka k (xZ t zdR (rowOf ss)) t=An/\An.length=t) ⟨eI.symm,by rw[eI];exact VW _ _ _⟩;rw[abq.1,<-eI];have aW:=hc.t16;refine ajJ hc hb hlb ?_;intro SW uX IU;refine aeC ?_;intro EW;have ai:(t:Int)-(t:Int)=0:=ae;clear hc hb hlb eI;go_enter func48,ntmps48;go_wp2_with fail;refine zN 0 (YI (¬b=An) w) (λ_ _=>0) rfl ?_ ?_
 ·simp only[qb];go_wp2_with fail;refine(J8 cp k t no nn nc zdR ado N adc ss w SW.zfx SW.t16 SW.zho SW.zfV SW.zfW SW.zhp SW.zfX SW.strs SW.lens).mono ?_;rintro e A4⟨a0W,MP,a0l,ie,oF,abk,rfl,hb,abg,sy⟩;have EE:=zc hb;have abh:=t_ abg;refine aiI ?_;intro EW aT;clear abg;go_wp2_with (refine aqX ?_);intro A4 hb sy;have EW:=zc (EW.push hb sy);have EB:=zc sy;go_wp2_with (refine EW.g0.zdP rfl rfl rfl (cs:=VI a0W MP a0l) rfl yx rfl rfl (Jc _ _ _) ?_);intro A4 aF oE;have EE:=zc (EE.later (zi EB oE (zab _)));refine agL ?_;intro EW;have az:=EW.g0.cell 2 _ rfl;have eA:=J9 (.pointer (some ⟨a0W,0,none⟩)) (.pointer (some ⟨MP,0,none⟩)) a0l;go_wp2_with fail;refine(rG EE).mono ?_;rintro e A4⟨aK,rfl,I4,sy⟩;rw[abh.1,uY.1] at I4;obtain⟨Ny,oF,rfl,P4,_,aR⟩:=zz I4;have A0:=zc aR;refine aex ?_;intro EW;clear az eA aR;go_wp2_with fail;refine(Ba bo Ny t t bc oF b An _ uX uY.2 ae (IU.below EW.bel) A0).mono ?_;refine aio ?_;intro A4 sy EW;by_cases aT:b=An
  ·have Ts:=t_ aT;rw[decide_eq_true aT];clear aT;go_wp2;rw[Exit.zdZ];go_ret2;rw[if_pos Ts.1];exact⟨⟨none,rfl,zr.nil _ _,λh=>absurd h ab⟩,EW.bel⟩
  ·have Ts:=zc aT;rw[decide_eq_false aT];clear aT;go_wp2;refine wp_goto ⟨rfl,YI.intro rfl Ts EW.bel⟩
 ·rintro ef oU⟨NU,rfl,Ts,SM⟩;go_wp2;rw[Exit.zdZ];go_ret2;rw[if_neg Ts.o];exact ak9 SM
def rQ(bo:OA)(mn mc:Nat)(m:La_)(w:World)(hc:Ctx w cp k t no nn nc zdR ado N adc ss)(hm:m.length=mn)(hmm:mn<=15000)(hmc:mn<=mc)(hlm:zr w bo (m.map B))(hr:k.room t mn):Ca_ 47 #[pa_ cp,.int .i64 t,.slice no nn nc,.slice ado N adc,.slice bo mn mc] w λe w'=>∃v,e=.returned (.tuple #[v,.int .i64 0])/\w'.ownsRow w.heap.size 5 1 v (mn+t) ((XW k t zdR (rowOf ss) m).map B)/\Below w.heap.size w w':=by
 by_cases ag:k.alg=3
 ·obtain⟨p,rfl⟩:∃p,k=.aez p:=by cases k<;>first|exact⟨_,rfl⟩|cases ag
  by_cases aM:mn=0
  ·subst aM;obtain rfl:=List.eq_nil_of_length_eq_zero hm;rw[Nat.zero_add];exact rO bo mc w hc
  ·exact GP bo mn mc m w hc hm hmm hmc hlm aM
 ·exact GO bo mn mc m w hc ag hm hmm hmc hlm (hr.resolve_left ag)
def cO{cv nv av:Value}{t:Int}{F1 F2:Nat}(hb:Ca_ 74 #[cv,.int .i64 t,nv,av] w λe w'=>∃p1 p2 nn,e=.returned (.tuple #[.agg (XK F1 F2 p1 p2 nn).toArray,.int .i64 0])/\nn.oneCell'=true/\Below w.heap.size w w'):Ca_ 74 #[cv,.int .i64 t,nv,av] w λe w'=>∃vs:Lb_,e=.returned (.tuple #[.agg vs.toArray,.int .i64 0])/\vs.length=3/\(∀v∈vs,v.oneCell'=true)/\Below w.heap.size w w' :=
 hb.mono λe w' ⟨p1,p2,nn,he,h1,hbel⟩=>⟨_,he,rfl,XL h1,hbel⟩
def rR(bo:OA)(bn bc:Nat)(b:La_)(w:World)(hc:Ctx w cp k t no nn nc zdR ado N adc ss)(hb:b.length=bn)(hbm:bn<=15000)(hbc:bn<=bc)(hlb:zr w bo (b.map B)):Ca_ 48 #[pa_ cp,.int .i64 t,.slice no nn nc,.slice ado N adc,.slice bo bn bc] w λe w'=>Out w' w.heap.size (JM k t zdR (rowOf ss) b) e/\Below w.heap.size w w':=by
 have aW:=hc.t16;by_cases ag:k.alg=3
 ·obtain⟨p,rfl⟩:∃p,k=.aez p:=by cases k<;>first|exact⟨_,rfl⟩|cases ag
  have abr:=J8 cp p t no nn nc zdR ado N adc ss w hc.zfx aW hc.zho hc.zfV hc.zfW hc.zhp hc.zfX hc.strs hc.lens;by_cases aB:bn<t
  ·refine(gr _ _ _ t bo bn bc w aB aW (cO (F1:=93) (F2:=95) (abr.mono λe w' ⟨bc,br,bt,g,cap,sts,he,_,_,hbel⟩=>⟨bc,br,_,he,rfl,hbel⟩))).mono ?_;rintro e w'⟨rfl,hbel⟩;have e:JM (.aez p) t zdR (rowOf ss) b=none:=by show Qh p _ t b=_;unfold Qh;rw[if_pos (by omega)]
   rw[e];exact ak9 hbel
  ·by_cases he:bn=t
   ·subst he;exact Un bo bc b w hc hb hlb
   ·have e:JM (.aez p) t zdR (rowOf ss) b=(if(ze6 p (xZ t zdR (rowOf ss)) b true).drop (bn-t)=zg t then some ((ze6 p (xZ t zdR (rowOf ss)) b true).take (bn-t)) else none):=by
     show Qh p _ t b=_;unfold Qh;rw[hb,if_neg aB,if_neg he]
    rw[e];refine gu _ _ _ t bo bn bc _ 93 95 w aW ae hbm (by rw[wA];exact hb) rM (abr.mono ?_);rintro ai A4⟨a0W,br,bt,g,cap,sts,rfl,PC,abg,hbel⟩;refine⟨a0W,br,_,rfl,λh=>absurd h he,rfl,λw'' zgU hbw=>?_,hbel⟩;have:=GK (PC.later zgU) bo bn bc b hb ae ae hbc (hlb.below hbw);rw[abg] at this;exact this
 ·have abr:=cN cp k t no nn nc zdR ado N adc ss w hc.zfx ag aW hc.zho hc.zfV hc.zfc hc.zfW hc.zhp hc.zfX hc.strs hc.lens hc.ctx;have abt:JM k t zdR (rowOf ss) b=Fb k (JL t zdR (rowOf ss)) t b:=by
   cases k with
   | adi k=>rfl
   | hct k=>rfl
   | aez k=>exact absurd rfl ag
  rw[abt];unfold Fb;rw[hb];by_cases aB:bn<t
  ·rw[if_pos aB];refine(gr _ _ _ t bo bn bc w aB aW (cO (F1:=99) (F2:=100) (abr.mono λe w' ⟨bc,br,ao,n,cap,he,_,hbel⟩=>⟨bc,br,_,he,rfl,hbel⟩))).mono ?_;rintro e w'⟨rfl,hbel⟩;exact ak9 hbel
  ·rw[if_neg aB];by_cases eg:bn<k.least
   ·rw[if_pos eg];refine(rP _ _ _ t bo bn bc 99 100 w aW ae hbm Wy (abr.mono ?_)).mono ?_
    ·rintro ai A4⟨a0W,br,ao,n,cap,rfl,PC,hbel⟩;exact⟨a0W,br,rfl,λw'' zgU=>rI (PC.later zgU) bo bn bc eg,hbel⟩
    ·rintro e w'⟨rfl,hbel⟩;exact ak9 hbel
   ·rw[if_neg eg];refine gu _ _ _ t bo bn bc _ 99 100 w aW ae hbm (by rw[vl _ _ (by omega)];exact hb) Wy (abr.mono ?_);rintro ai A4⟨a0W,br,ao,n,cap,rfl,PC,hbel⟩;exact⟨a0W,br,_,rfl,λ_=>rfl,rfl,λw'' zgU hbw=>GM (PC.later zgU) bo bn bc b hb ae ae hbc (hlb.below hbw),hbel⟩


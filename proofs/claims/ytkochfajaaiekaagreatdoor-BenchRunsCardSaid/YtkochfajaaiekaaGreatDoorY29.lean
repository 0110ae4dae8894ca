/- Laws. -/
import Derived.Test.YtkochfajaaiekaaGreatDoorY23
set_option linter.all false
set_option maxHeartbeats 16000000
set_option maxRecDepth 100000
open UInt64 renaming ofNat->zae
namespace Go.Proofs.YtkochfajaaiekaaGreatDoor
open Go.Proofs.Tryz
variable{n:Nat}{s:yN}{bs name:La_}{x:Cmd}
def Dm(s:yN)(x:Cmd)(key:La_):(kS s x key).1.nam=s.nam/\(kS s x key).1.cip=s.cip/\(kS s x key).1.hdr=s.hdr:=by unfold kS;split<;>exact⟨rfl,rfl,rfl⟩
def MT(s:yN)(x:Cmd):(z6 s x).1.nam=s.nam/\(z6 s x).1.cip=s.cip/\(z6 s x).1.hdr=s.hdr:=by
 unfold z6;split
 ·exact Dm _ _ _
 ·split
  ·exact⟨rfl,rfl,rfl⟩
  ·cases s.vol with
   | none=>exact⟨rfl,rfl,rfl⟩
   | some v=>exact⟨rfl,rfl,rfl⟩
def Dn(s:yN)(x:Cmd):(ju s x).1.vol=s.vol/\(ju s x).1.cip=s.cip/\(ju s x).1.hdr=s.hdr/\(x.kind≠9->(ju s x).1=s):=by
 unfold ju;split
 ·next e =>
  split
  ·exact ahC
  ·exact ajl
 ·split
  ·exact ahC
  ·cases s.nam with
   | none=>exact⟨rfl,rfl,rfl,λ_=>rfl⟩
   | some kp =>
    obtain⟨Pp,ox⟩:=kp;simp only;split<;>exact⟨rfl,rfl,rfl,λ_=>rfl⟩
def Do(s:yN)(x:Cmd):(qe s x).1.vol=s.vol/\(qe s x).1.nam=s.nam/\(qe s x).1.hdr=s.hdr/\(x.kind≠12->(qe s x).1=s):=by
 unfold qe;split
 ·next e =>
  exact ajl
 ·split
  ·exact ahC
  ·cases s.cip with
   | none=>exact⟨rfl,rfl,rfl,λ_=>rfl⟩
   | some k =>
    simp only;split
    ·exact ahC
    ·split
     ·split<;>exact⟨rfl,rfl,rfl,λ_=>rfl⟩
     ·split<;>exact⟨rfl,rfl,rfl,λ_=>rfl⟩
def Dp(s:yN)(x:Cmd):(kg s x).1.nam=s.nam/\(kg s x).1.cip=s.cip/\(15<=x.kind->x.kind<=17->(kg s x).1.vol=s.vol):=by
 unfold kg;split
 ·exact ai8
 ·split
  ·exact ai8
  ·split
   ·exact ai8
   ·split
    ·exact ai8
    ·split
     ·exact ai8
     ·have ag:=Dm s x (qW x.key s.hdr).1;exact⟨ag.1,ag.2.1,λ_ _=>by omega⟩
def Nj(s:yN)(x:Cmd)(h:x.kind≠12):(do1 s x).1.cip=s.cip:=by
 unfold do1;split
 ·rfl
 ·split
  ·exact(MT s x).2.1
  ·split
   ·exact(Dn s x).2.1
   ·split
    ·rw[(Do s x).2.2.2 h]
    ·exact(Dp s x).2.1
def Nk(s:yN)(x:Cmd)(h:x.kind≠9):(do1 s x).1.nam=s.nam:=by
 unfold do1;split
 ·rfl
 ·split
  ·exact(MT s x).1
  ·split
   ·rw[(Dn s x).2.2.2 h]
   ·split
    ·exact(Do s x).2.1
    ·exact(Dp s x).1
def XO(n:Nat)(bs:La_)(s:yN):Prop:=∃v,s.vol=some v/\n<v.zdO/\v.sec n=bs
def Dq{v:Vol}(hv:v.zeq)(x:Cmd)(hn:n<v.zdO)(h5:x.kind≠5)(h2:¬(x.kind=2/\x.n=(n:Int))):n<(wV v x).1.zdO/\(wV v x).1.sec n=v.sec n:=by
 have ael:∀(kd:Nat)(b:La_),kd≠3->¬(kd=0/\x.n=(n:Int))->n<(v.act kd x.n b 0).1.zdO/\(v.act kd x.n b 0).1.sec n=v.sec n:=λkd b h3 h0=>by
  have ah:=qK hv kd x.n b 0;refine⟨by rw[ah.form.2.2];exact hn,?_⟩;rw[ah.secs h3 n hn,if_neg (λhh=>h0 ⟨hh.1,hh.2.2⟩)]
 unfold wV;split
 ·next e=>exact ael 0 x.b bd (λhh=>h2 ⟨e,hh.2⟩)
 ·split
  ·split
   ·exact ael 2 x.b bd (λhh=>absurd hh.1 bd)
   ·exact⟨hn,rfl⟩
  ·split
   ·split<;>exact⟨hn,rfl⟩
   ·split
    ·exact ael 4 x.key bd (λhh=>absurd hh.1 bd)
    ·split
     ·cases e:v.next with
      | none=>exact⟨hn,rfl⟩
      | some k =>
       obtain⟨ai,aj,ak,an,iB⟩:=Zx v k;exact⟨by show n<(v.step k).zdO;rw[aj];exact hn,JK hv e hn⟩
     ·exact ael 6 x.key bd (λhh=>absurd hh.1 bd)
def Mh(hs:s.zeq)(x:Cmd)(h:XO n bs s)(h1:x.kind≠1)(h5:x.kind≠5)(h18:x.kind≠18)(h2:¬(x.kind=2/\x.n=(n:Int))):XO n bs (do1 s x).1:=by
 obtain⟨aK,aL,aD,aF⟩:=h;have aem:∀{t:yN},t.vol=s.vol->XO n bs t:=λe=>⟨aK,e.trans aL,aD,aF⟩
 unfold do1;split
 ·exact aem rfl
 ·split
  ·unfold z6;rw[if_neg h1,if_neg (λhh=>h5 hh.1),aL];have ag:=Dq (hs.vol aK aL) x aD h5 h2;exact⟨_,rfl,ag.1,ag.2.trans aF⟩
  ·split
   ·exact aem (Dn s x).1
   ·split
    ·exact aem (Do s x).1
    ·exact aem ((Dp s x).2.2 ae ae)
def Dr(hs:s.zeq)(n:Int)(bs:La_)(h:(do1 s ⟨2,0,n,0,[],bs,[]⟩).2.1=0):∃k:Nat,n=(k:Int)/\XO k bs (do1 s ⟨2,0,n,0,[],bs,[]⟩).1:=by
 have ai:do1 s ⟨2,0,n,0,[],bs,[]⟩=z6 s ⟨2,0,n,0,[],bs,[]⟩:=by unfold do1;rw[if_neg (by show ¬((2:Int)<1\/(18:Int)<2);omega),if_pos (by show(2:Int)<=8;omega)]
 rw[ai] at h |-;unfold z6 at*;rw[if_neg (by show ¬(2:Int)=1;omega),if_neg (by show ¬((2:Int)=5/\_);omega)] at h |-;cases hv:s.vol with
 | none=>rw[hv] at h;exact absurd (show(2:Int)=0 from h) bd
 | some v =>
  rw[hv] at h;simp only at h |-;unfold wV at*;rw[if_pos rfl] at h |-;have ah:=qK (hs.vol v hv) 0 n bs 0;have h:(v.act 0 n bs 0).2=0:=h;obtain⟨aD,aF⟩:=ah.bytes rfl h;unfold Vol.has at aD;refine⟨n.toNat,ae,_,rfl,?_,?_⟩
  ·show n.toNat<(v.act 0 n bs 0).1.zdO;rw[ah.form.2.2];omega
  ·show(v.act 0 n bs 0).1.sec n.toNat=bs;rw[ah.secs bd n.toNat ae,if_pos ⟨rfl,h,ae⟩]
def Hd(h:XO n bs s):(do1 s ⟨3,0,(n:Int),0,[],[],[]⟩).2=(0,0,bs):=by
 obtain⟨aK,aL,aD,aF⟩:=h;have ai:do1 s ⟨3,0,(n:Int),0,[],[],[]⟩=z6 s ⟨3,0,(n:Int),0,[],[],[]⟩:=by unfold do1;rw[if_neg (by show ¬((3:Int)<1\/(18:Int)<3);omega),if_pos (by show(3:Int)<=8;omega)]
 rw[ai];unfold z6;rw[if_neg (by show ¬(3:Int)=1;omega),if_neg (by show ¬((3:Int)=5/\_);omega),aL];simp only;unfold wV;rw[if_neg (by show ¬(3:Int)=2;omega),if_pos rfl,if_pos (by unfold Vol.has;show 0<=(n:Int)/\(n:Int)<_;omega)];simp only;rw[show((n:Int)).toNat=n from Int.toNat_natCast n,aF]
def Nl(s:yN)(h1:12<=x.kind)(h2:x.kind<=14):do1 s x=qe s x:=by unfold do1;rw[if_neg (by omega),if_neg (by omega),if_neg (by omega),if_pos h2]
def M7(s:yN)(h1:9<=x.kind)(h2:x.kind<=11):do1 s x=ju s x:=by unfold do1;rw[if_neg (by omega),if_neg (by omega),if_pos h2]
def Nq(hs:s.zeq){kd a n m:Int}{key b:La_}(hk:kd=13)(h:(do1 s ⟨kd,a,n,m,key,b,name⟩).2.1=0):∃k,s.cip=some k/\(do1 s ⟨kd,a,n,m,key,b,name⟩).2.2.2.length<=b.length+16/\∀s':yN,s'.cip=some k->(do1 s' ⟨14,a,n,m,key,(do1 s ⟨kd,a,n,m,key,b,name⟩).2.2.2,name⟩).2=(0,0,b):=by
 subst hk;rw[Nl s (by show(12:Int)<=13;omega) (by show(13:Int)<=14;omega)] at*;unfold qe at h;rw[if_neg (by show ¬(13:Int)=12;omega)] at h;by_cases eh:m≠0/\m≠1
 ·rw[if_pos eh] at h;exact absurd (show(21:Int)=0 from h) bd
 rw[if_neg eh] at h;cases hc:s.cip with
 | none=>rw[hc] at h;exact absurd (show(2:Int)=0 from h) bd
 | some k =>
  rw[hc] at h;simp only at h;by_cases aD:0<=n/\n<=16;rotate_left
  ·rw[if_pos aD] at h;exact absurd (show(4:Int)=0 from h) bd
  rw[if_neg (λhh=>hh aD),if_pos trivial] at h;by_cases eI:k.alg=3\/k.least<=b.length+n.toNat;rotate_left
  ·rw[if_neg eI] at h;exact absurd (show(7:Int)=0 from h) bd
  have ai:(qe s ⟨13,a,n,m,key,b,name⟩).2.2.2=XW k n.toNat key (adB ⟨13,a,n,m,key,b,name⟩) b:=by
   unfold qe;rw[if_neg (by show ¬(13:Int)=12;omega),if_neg eh,hc];simp only;rw[if_neg (λhh=>hh aD),if_pos trivial,if_pos eI]
  have aps:k.room n.toNat b.length:=eI;refine⟨k,rfl,by rw[ai,M3 _ _ _ aps];omega,λs' hc'=>?_⟩;rw[ai,Nl s' (by show(12:Int)<=14;omega) (by show(14:Int)<=14;omega)];unfold qe;rw[if_neg (by show ¬(14:Int)=12;omega),if_neg eh,hc'];simp only;rw[if_neg (λhh=>hh aD),if_neg (by show ¬(14:Int)=13;omega)];have aF:=Nd (hs.cip k hc) n.toNat key (adB ⟨13,a,n,m,key,b,name⟩) aps;have a8g:adB ⟨14,a,n,m,key,XW k n.toNat key (adB ⟨13,a,n,m,key,b,name⟩) b,name⟩=adB ⟨13,a,n,m,key,b,name⟩:=rfl;rw[a8g,aF]
def WA:∀b:La_,(kV b).length<=2*b.length
 | []=>Nat.le_refl _
 | [a]=>by rw[Ht];simp
 | [a,b]=>by rw[Hu];simp
 | a::b::c::r=>by
  have:=WA r;unfold kV;simp only[List.length_append,List.length_cons,List.length_nil,List.length_map,List.length_range];omega
def UV(hs:s.zeq){folder:Int}(h:(do1 s ⟨10,0,folder,0,[],[],name⟩).2.1=0):∃kp,s.nam=some kp/\(do1 s ⟨10,0,folder,0,[],[],name⟩).2.2.2.length<=510/\∀s':yN,s'.nam=some kp->(do1 s' ⟨11,0,folder,0,[],[],(do1 s ⟨10,0,folder,0,[],[],name⟩).2.2.2⟩).2=(0,0,name):=by
 rw[M7 s (by show(9:Int)<=10;omega) (by show(10:Int)<=11;omega)] at*;unfold ju at h;rw[if_neg (by show ¬(10:Int)=9;omega)] at h;by_cases eP:folder<0
 ·rw[if_pos eP] at h;exact absurd (show(21:Int)=0 from h) bd
 rw[if_neg eP] at h;cases hc:s.nam with
 | none=>rw[hc] at h;exact absurd (show(2:Int)=0 from h) bd
 | some kp =>
  obtain⟨Pp,ox⟩:=kp;rw[hc] at h;simp only at h;rw[if_pos trivial] at h;by_cases eI:jt name;rotate_left
  ·unfold MQ at h;rw[if_neg eI] at h;exact absurd (show(15:Int)=0 from h) bd
  obtain⟨aQ,eE⟩:=hs.nam Pp ox hc;have ai:(ju s ⟨10,0,folder,0,[],[],name⟩).2.2.2=(MQ Pp ox (zae folder.toNat) name).1:=by
   unfold ju;rw[if_neg (by show ¬(10:Int)=9;omega),if_neg eP,hc];simp only;rw[if_pos trivial]
  refine⟨(Pp,ox),rfl,?_,λs' hc'=>?_⟩
  ·rw[ai];unfold MQ;rw[if_pos eI];have ag:=WA (xG Pp (zw (zae folder.toNat)) (WD name ox) false);have aM:=Qr eE eI;have ij:=KV eE eI.1 eI.2.1;have ij:=least_le Pp;rw[vl _ _ (by rw[aM];omega),aM] at ag;show(kV _).length<=510;omega
  ·rw[ai,M7 s' (by show(9:Int)<=11;omega) (by show(11:Int)<=11;omega)];unfold ju;rw[if_neg (by show ¬(11:Int)=9;omega),if_neg eP,hc'];simp only;rw[if_neg (by show ¬(11:Int)=10;omega)];rw[Nx aQ (least_le Pp) eE _ eI]
def MU:∀(l m:List Cmd)(s:yN),doL s (l++m)=((doL (doL s l).1 m).1,(doL s l).2++(doL (doL s l).1 m).2)
 | [],m,s=>rfl
 | x::r,m,s=>by simp only[List.cons_append,doL,MU r]
def MY(l:List Cmd)(n:Nat)(s:yN):(doL (doL s (l.take n)).1 (l.drop n)).1=(doL s l).1/\(doL s (l.take n)).2++(doL (doL s (l.take n)).1 (l.drop n)).2=(doL s l).2:=by have ag:=MU (l.take n) (l.drop n) s;rw[List.take_append_drop] at ag;rw[ag];exact aeU


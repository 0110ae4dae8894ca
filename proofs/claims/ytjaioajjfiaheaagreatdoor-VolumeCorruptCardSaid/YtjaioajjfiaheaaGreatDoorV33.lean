/-
  Texts of this claim, one behind the other.
-/
import Derived.Test.YtjaioajjfiaheaaGreatDoorV1
import Derived.Test.YtjaioajjfiaheaaGreatDoorV28
import Derived.Lib.Hide
set_option linter.unusedVariables false
set_option linter.unusedSimpArgs false
set_option maxHeartbeats 16000000
set_option maxRecDepth 100000
open Int renaming tdiv_eq_ediv_of_nonneg→gy
open List renaming getElem?_append_left→bO
open Nat renaming le_trans→uj
open Option renaming some.inj→uQ
namespace Go.Vol
open Ops Wid
def Vol.at (v:Vol) (r:Nat):Vol:={ v with reads:=r }
theorem J1 (v:Vol) (r k:Nat) (x:UInt8):(v.at r).pX k x=(v.pX k x).at r:=rfl
theorem Vol.pg.at {v:Vol} (h:v.pg) (r:Nat):(v.at r).pg:=h.count _ _
theorem znd {v:Vol} {r n:Nat} (hn:n < v.mK):((v.at r).read n).1=v.at (r+1):=by
 unfold Vol.read
 rw [if_pos (by unfold Vol.has;exact ⟨by omega,by show (n:Int) < (v.mK:Int);omega⟩)]
 rfl
theorem wg {v:Vol} {k:Nat} {x:UInt8} (hk:k < v.size*v.mK):v.harm (k:Int) x=(v.pX k x,0):=by
 unfold Vol.harm
 rw [if_pos ⟨by omega,by omega⟩,Int.toNat_natCast]
end Go.Vol
namespace Go.Proofs.YtjaioajjfiaheaaGreatDoor
open RowKit Mem Ops Cells Oct Gf Trn Aes Ring Ezk Blake Adi Hct Wid Vol Fl ru
attribute [local irreducible] zE zN zO zM yu
theorem Q2:(Tryz.prog.info? 22).map (fun i=>(i.zero,i.size,i.bytes))=some (some (.slice none 0 0),1,24):=by kernel_rfl
theorem znw (a b:List UInt8):((str a).toList==(str b).toList)=(a==b):=by
 simp [str]
theorem word_wf {n:Int} (h:(Lit.int .u16 n).wf=true):0≤n∧n≤65535:=by
 simpa [Lit.wf,IntKind.min,IntKind.max,IntKind.signed,IntKind.bits] using h
theorem znv {F:List Nat} {q p vp sp base0 n g':Nat} {gV:Option Addr} {zlV:Nat} {vals:List Value} {w13 w6 w7:World} {v:Vol} (hv:kq F q p vp sp w13 v) (hb:Below w13.heap.size w13 w6)
  (hown:w13.ownsRow base0 22 1 (.slice gV n zlV) n vals) (hg:w6.grownBy w7 (Value.slice gV n zlV).ownBlock) (hgg:(Value.slice gV n zlV).ownBlock=some g'∨g'=w6.heap.size) (hlt:g' < w7.heap.size)
  (hvb:vp < base0∧sp < base0) (hbz:base0≤w13.heap.size)
  (hcas:(n=0∧Value.slice gV n zlV=.slice none 0 0∧F=[vp,sp])∨(∃ g cap,0 < n∧Value.slice gV n zlV=.slice (some ⟨g,0,none⟩) n cap∧F=[g,vp,sp]∧base0≤g)) :
  kq [g',vp,sp] q p vp sp w7 v∧base0≤g'∧(∀ a xs,Blk w13 a xs 5→Blk w7 a xs 5)∧(∀ w0 b L,St w0 b w13 L→b≤base0→(∀ e∈L,e.1 < base0)→St w0 b w7 L):=by
 have hz:=hb.size
 have hqp:=hv.tabs
 rcases hcas with ⟨rfl,e,rfl⟩ | ⟨g,cap,h0,e,rfl,hg0⟩
 ·cases e
  have hgg:g'=w6.heap.size:=hgg.resolve_left (by simp [Value.ownBlock])
  have hbe:Below w6.heap.size w6 w7:=⟨hg.os,hg.tape,hg.output,hg.size,fun k hk=>hg.block k hk (by simp [Value.ownBlock])⟩
  have zlY:Below w13.heap.size w13 w7:=hb.trans (hbe.mono hz)
  refine ⟨hv.zhR zlY (fun i hi=>?_) ⟨by simp,by simp⟩ hqp,by omega,fun a xs h=>h.below zlY h.lt,fun w0 b L h _ _=>h.later zlY⟩
  simp at hi ⊢
  rcases hi with rfl | rfl | rfl
  ·right;omega
  ·simp
  ·simp
 ·cases e
  obtain ⟨g1,c1,tl,e1,hbk,_,_⟩:=YK hown h0
  have e2:g=g1:=by cases e1;rfl
  subst e2
  have hg:w6.grownBy w7 (some g):=hg
  have hgg:g'=g∨g'=w6.heap.size:=hgg.imp (fun h=>(uQ h).symm) id
  refine ⟨(hv.below hb).grown (zI.zlU hg) (hgg.imp id fun h=>⟨by omega,hlt⟩) ⟨by simp,by simp⟩ (by omega) (by omega),by omega,fun a xs h=>?_,fun w0 b L h hb0 hL=>?_⟩
  ·refine (h.below hb h.lt).grown hg (fun e=>?_)
   cases e
   exact absurd (hbk.symm.trans h) (by simp)
  ·exact (h.later hb).grown hg (fun k hk=>by cases hk;omega) (fun x hx hk=>by have:=hL x hx;have:=uQ hk;omega)
def yb (w:World) (g base0 sz sc:Nat) (vals tl:List Value) (v:Vol):Prop:=vals.length=sc∧Blk w g (vals++tl) 22∧∀ m,m < sc→∃ gm cm tm,vals[m]? = some (.slice (some ⟨gm,0,none⟩) sz cm)∧sz≤cm∧base0≤gm∧Blk w gm ((v.sec m).map B++tm) 5
theorem yb.chg {w w':World} {g base0 sz sc vp sp:Nat} {vals tl:List Value} {v:Vol} (h:yb w g base0 sz sc vals tl v) (hc:Chg vp sp w w') (hvb:vp < base0∧sp < base0) (hg:base0≤g):yb w' g base0 sz sc vals tl v :=
 ⟨h.1,h.2.1.chg hc (by omega) (by omega),fun m hm=>by
  obtain ⟨a,b,t,h1,h2,h3,h4⟩:=h.2.2 m hm
  exact ⟨a,b,t,h1,h2,h3,h4.chg hc (by omega) (by omega)⟩⟩
theorem yb.below {w w':World} {g base0 sz sc:Nat} {vals tl:List Value} {v:Vol} (h:yb w g base0 sz sc vals tl v) (hb:Below w.heap.size w w'):yb w' g base0 sz sc vals tl v :=
 ⟨h.1,h.2.1.below hb h.2.1.lt,fun m hm=>by
  obtain ⟨a,b,t,h1,h2,h3,h4⟩:=h.2.2 m hm
  exact ⟨a,b,t,h1,h2,h3,h4.below hb h4.lt⟩⟩
theorem yb.at {w:World} {g base0 sz sc:Nat} {vals tl:List Value} {v:Vol} (h:yb w g base0 sz sc vals tl v) {m:Nat} (hm:m < sc):∃ gm cm,w.cell? ⟨g,m,none⟩=some (.slice (some ⟨gm,0,none⟩) sz cm)∧zr w (some ⟨gm,0,none⟩) ((v.sec m).map B):=by
 obtain ⟨a,b,t,h1,h2,h3,h4⟩:=h.2.2 m hm
 exact ⟨a,b,h.2.1.cell m _ (by rw [bO (by rw [h.1];exact hm)];exact h1),ZY h4⟩
theorem zns {v:Vol} {r k:Nat} {x:UInt8} (hk:k < v.size*v.mK):(v.at r).harm (k:Int) x=((v.pX k x).at r,0):=by
 rw [wg (v:=v.at r) hk,J1]
theorem znx (alg size secs:Int) (a1:Option Addr) (n1 c1:Nat) (key:List UInt8) (a2:Option Addr) (n2 c2:Nat) (xs:List zmm) (atn:Int) (by8:UInt8) (w:World) (hkn:key.length=n1) (hkc:n1≤c1) (hkl:zr w a1 (key.map B)) (hxn:xs.length=n2) (hnm:n2≤maxLen) (hx:zlo w a2 xs) (hg:pQ w) (hbg:qD w) (hat:0≤atn∧atn≤65535) :
  Calls Tryz.prog 11 #[.agg (zik alg size secs a1 n1 c1 a2 n2 c2).toArray,.int .u16 atn,B by8] w fun e w'=>e=.returned (.bool true)∧Below w.heap.size w w':=by
 obtain ⟨an,rfl⟩:∃ an:Nat,atn=(an:Int):=⟨atn.toNat,by omega⟩
 have hby:by8=0∨((by8.toNat:Int)==0)=false:=by
  by_cases h:by8=0
  ·exact .inl h
  ·refine .inr ?_
   have:by8.toNat≠0:=fun e=>h (UInt8.toNat_inj.1 e)
   simp;omega
 have HS:=znq (St.start w)
 have HKN:=znq hkn
 have HKL:=znq hkl
 have HXN:=znq hxn
 have HX:=znq hx
 have HG:=znq hg
 have HBG:=znq hbg
 have HNM:=znq hnm
 have hwz:nU alg size secs n1=0∨(nU alg size secs n1 != 0)=true:=by
  by_cases h:nU alg size secs n1=0
  ·exact .inl h
  ·exact .inr (by simpa using h)
 clear hkn hkl hxn hx hg hbg hnm
 go_enter Tryz.func11,Tryz.ntmps11
 go_wp2_with (refine zh 47 _ (zik alg size secs a1 n1 c1 a2 n2 c2) _ rfl rfl rfl rfl ?_)
 intro w1 hb hbel;have HS:=znq (HS.znr.push hb hbel);clear hb hbel
 go_wp2_with (refine (HS.znr.get 0 rfl).mP rfl rfl rfl zhr rfl ?_)
 refine (zq9 alg size secs a1 n1 c1 a2 n2 c2 xs _ HXN.znr HNM.znr (HX.znr.below HS.znr.bel)).mono ?_
 rintro e w2 ⟨⟨b,rfl,pY⟩,hbel⟩
 have HS:=znq (HS.znr.later hbel)
 clear hbel
 cases b
 ·clear hwz pY
  go_wp2
  go_ret
  exact ⟨rfl,HS.znr.bel⟩
 have h12:=pY rfl
 have hx0:=(HS.znr.get 0 rfl).cell 0 _ rfl
 have hx1:=(HS.znr.get 0 rfl).cell 1 _ rfl
 have hx2:=(HS.znr.get 0 rfl).cell 2 _ rfl
 have hx3:=(HS.znr.get 0 rfl).cell 3 _ rfl
 clear pY
 go_wp2_with fail
 refine (zlk alg size secs a1 n1 c1 _).mono ?_
 rintro e w3 ⟨rfl,hbel⟩
 have HS:=znq (HS.znr.later hbel)
 clear hbel hx0 hx1 hx2 hx3
 rcases hwz with hwz | hwz
 rotate_left
 ·go_wp2
  go_ret
  exact ⟨rfl,HS.znr.bel⟩
 obtain ⟨sz,sc,hsz,hsc,hz,hs,hw⟩:=zmq hwz
 rw [hwz]
 subst hsz hsc
 have HW:=znq hw
 clear hwz hw
 rcases hby with rfl | hby
 ·go_wp2
  go_ret
  exact ⟨rfl,HS.znr.bel⟩
 have HBY:=znq (show by8≠0∧True from ⟨by rintro rfl;simp at hby,trivial⟩)
 go_wp2_with (refine (HS.znr.get 0 rfl).mP rfl rfl rfl zhr rfl ?_)
 have zcH:=(HS.znr.get 0 rfl).lt
 refine (zng [] alg sz sc a1 n1 c1 key a2 n2 c2 _ hz hs HW.znr HKN.znr hkc (HKL.znr.below HS.znr.bel) (HG.znr.below HS.znr.bel) (HBG.znr.below HS.znr.bel) (by simp)).mono ?_
 rintro e w4 ⟨vp,sp,rfl,rU,hbel⟩
 obtain ⟨q,p,hvx,hvp,hsp⟩:=zr9 rU
 have HV:=znq hvx
 have hz3:=HS.znr.size
 have HS:=znq (HS.znr.later hbel)
 have hvl:=hvx.lt
 have zlP:w.heap.size≠vp∧w.heap.size≠sp:=by omega
 have sV:w.heap.size≤vp:=by omega
 have sW:w.heap.size≤sp:=by omega
 clear rU hbel hvx
 clear hby
 obtain ⟨v0,hv0⟩:∃ v,v=zim alg sz sc key:=⟨_,rfl⟩
 have H0:=znq (show v0.pg∧v0.size=sz∧v0.mK=sc∧v0.reads=0∧v0.writes=0∧(∀ m,m < sc→v0.sec m=zf sz)∧v0.next=none∧v0.now=jy alg key∧v0.alg=alg from ⟨by rw [hv0];exact zlp hz hs,by rw [hv0];rfl,by rw [hv0];rfl,by rw [hv0];rfl,by rw [hv0];rfl,fun m hm=>by rw [hv0];exact zq0 hz.1 hm,by rw [hv0];rfl,by rw [hv0];rfl,by rw [hv0];rfl⟩)
 rw [← hv0] at HV
 clear hv0
 have hx4:=(HS.znr.get 0 rfl).cell 4 _ rfl
 go_wp2
 clear hx4
 go_loopw [9] (fun c wr=>∃ (j:Nat) (v:Vol),j≤n2∧c=.int .i64 j∧Hid (v.pg∧v.size=sz∧v.mK=sc∧v.reads≤1000*j∧v.writes≤1000*j)∧Hid (kq [vp,sp] q p vp sp wr v)∧Hid (St w w.heap.size wr [(w.heap.size,zik alg sz sc a1 n1 c1 a2 n2 c2,47)])) (fun c _=>n2 - (intOf c).toNat)
 case atStart=>exact ⟨0,v0,by omega,rfl,⟨H0.znr.1,H0.znr.2.1,H0.znr.2.2.1,by rw [H0.znr.2.2.2.1];omega,by rw [H0.znr.2.2.2.2.1];omega⟩,HV,HS⟩
 case round =>
  clear HS HV H0
  obtain ⟨j,v,hj,rfl,HO,HV,HS⟩:=hrel
  have hx4:=(HS.znr.get 0 rfl).cell 4 _ rfl
  by_cases hlt:j < n2
  ·obtain ⟨x,hxi⟩:∃ x,xs[j]? = some x:=⟨xs[j]'(by rw [HXN.znr];exact hlt),by simp⟩
   obtain ⟨zeG,ab,zbH,rfl,_,hr⟩:=(HX.znr.below HS.znr.bel).at hxi
   obtain ⟨rO,_⟩:=HX.znr.at hxi
   have HXI:=znq (show x.bs.length≤x.cap∧zr w x.ao (x.bs.map B) from ⟨rO.cap.1,rO.lies⟩)
   have hc0:wr.cell? ⟨ab,zbH+j*4,none⟩=some (.int .i64 x.kind):=hr 0 (.int .i64 x.kind) rfl
   have hc1:=hr 1 (.int .i64 x.n) rfl
   have hc2:=hr 2 (.slice x.ao x.bs.length x.cap) rfl
   have hc3:=hr 3 (B x.by') rfl
   have HXX:=znq (And.intro hxi trivial)
   clear zeG rO hr hxi
   have hds:=zrw HO.znr.1 (pW x.kind) x.n x.bs x.by'
   obtain ⟨r,hr⟩:∃ r,r=v.act (pW x.kind) x.n x.bs x.by':=⟨_,rfl⟩
   rw [← hr] at hds
   have HRR:=znq hr
   have HDS:=znq hds
   clear hr hds
   go_wp2_with fail
   refine (zsa x HV.znr ⟨by have:=HO.znr.2.2.2.1;omega,by have:=HO.znr.2.2.2.2;omega⟩ (HBG.znr.below HS.znr.bel) HXI.znr.1 (zq7 HXI.znr.2 HS.znr.bel (fun i hi=>by simp at hi;omega))).mono ?_
   rintro e w9 ⟨rfl,hv,hc⟩
   rw [← HRR.znr] at hv ⊢
   have HV:=znq hv
   have HS:=znq (HS.znr.chg hc sV sW (by simp;omega))
   clear hv hc hx4 hc0 hc1 hc2 hc3
   obtain ⟨u,hu⟩:∃ u,u=r.1:=⟨_,rfl⟩
   have HU:=znq (show u.pg∧u.size=sz∧u.mK=sc∧u.reads≤1000*(j+1)∧u.writes≤1000*(j+1) from by
    obtain ⟨h1,h2,h3,h4,h5⟩:=HO.znr
    have hd:=HDS.znr
    rw [hu]
    exact ⟨hd.pq,by rw [hd.form.2.1];exact h2,by rw [hd.form.2.2];exact h3,uj hd.reads (by omega),uj hd.writes (by omega)⟩)
   rw [← hu] at HV
   clear hu HRR HDS
   go_wp2
   go_roundw
   case rel=>exact ⟨j+1,u,by omega,by go_num,HU,HV,HS⟩
   case measure=>simp [intOf];omega
  obtain rfl:n2=j:=by omega
  obtain ⟨st,hst⟩:∃ st,st=sz*sc:=⟨_,rfl⟩
  have hst1:16≤st:=by rw [hst];exact uj hz.1 (Nat.le_mul_of_pos_right sz (by omega))
  have hst2:st≤1048576:=by rw [hst];exact Nat.mul_le_mul hz.2 hs.2
  obtain ⟨k,hk⟩:∃ k,k=an % st:=⟨_,rfl⟩
  have hks:k < st:=by rw [hk];exact Nat.mod_lt _ (by omega)
  obtain ⟨lkq,hkq⟩:∃ lkq,lkq=k / sz:=⟨_,rfl⟩
  have zlZ:lkq < sc:=by rw [hkq];exact Nat.div_lt_of_lt_mul (by rw [← hst];exact hks)
  have HKQ:=znq (And.intro hkq trivial)
  have zlW:=znq (show k < v.size*v.mK from by rw [HO.znr.2.1,HO.znr.2.2.1,← hst];exact hks)
  have e1:IntKind.i64.wrap ((sz:Int)*(sc:Int))=(st:Int):=by
   have e:((sz:Int)*(sc:Int))=(st:Int):=by rw [hst];push_cast;rfl
   rw [e];exact IntWalk.i64_in _ (by omega)
  have e2:IntKind.i64.wrap (an:Int)=(an:Int):=IntWalk.i64_in _ (by omega)
  have e3:((an:Int)).tmod (st:Int)=(k:Int):=by rw [hk];rfl
  have e4:(st==0)=false:=by simp;omega
  have hx1:=(HS.znr.get 0 rfl).cell 1 _ rfl
  have hx2:=(HS.znr.get 0 rfl).cell 2 _ rfl
  have HST0:=znq (And.intro hst (And.intro hk hkq))
  clear hst hk hkq
  obtain ⟨i0,hi0,hz0,hz1,hz2⟩:=info_parts Q2
  have HI:=znq (And.intro hi0 (And.intro hz0 (And.intro hz1 hz2)))
  clear hi0 hz0 hz1 hz2
  obtain ⟨base0,zlT⟩:∃ b,b=wr.heap.size:=⟨_,rfl⟩
  have HW0:=znq (vL wr base0 22 1)
  have hvb:vp < base0∧sp < base0:=by rw [zlT];exact HV.znr.lt
  have hb0:w.heap.size < base0:=by rw [zlT];exact (HS.znr.get 0 rfl).lt
  have hbz:base0≤wr.heap.size:=by omega
  have HOK:=znq HO.znr
  have HV:=znq (show kq [vp,sp] q p vp sp wr (v.at v.reads) from HV.znr)
  clear zlT
  go_wp2
  clear e1 e2 e3 e4 hx1 hx2 hx4
  go_loopw [11,12] (fun U c wr=>∃ (n r:Nat) (vals:List Value) (F:List Nat) (V:Value),V=U∧n≤sc∧c=.int .i64 n∧r≤1000*n2+n∧base0≤wr.heap.size∧Hid (kq F q p vp sp wr (v.at r))∧Hid (wr.ownsRow base0 22 1 V n vals)∧Hid (vals.length=n∧∀ m,m < n→∃ gm cm tl,vals[m]? = some (.slice (some ⟨gm,0,none⟩) sz cm)∧sz≤cm∧base0≤gm∧Blk wr gm ((v.sec m).map B++tl) 5)∧Hid (St w w.heap.size wr [(w.heap.size,zik alg sz sc a1 n1 c1 a2 n2 c2,47)])∧((n=0∧V=.slice none 0 0∧F=[vp,sp])∨(∃ g cap,0 < n∧V=.slice (some ⟨g,0,none⟩) n cap∧F=[g,vp,sp]∧base0≤g))) (fun _ c _=>sc - (intOf c).toNat)
  case atStart=>exact ⟨0,v.reads,[],[vp,sp],_,rfl,by omega,rfl,by have:=HOK.znr.2.2.2.1;omega,hbz,HV,HW0,⟨rfl,fun m hm=>absurd hm (by omega)⟩,HS,.inl ⟨rfl,rfl,rfl⟩⟩
  case round =>
   clear HS HV HW0 hbz
   obtain ⟨n,r,vals,F,V,rfl,hn,rfl,hrb,hbz,HV,HOW,HVL,HS,hcas⟩:=hrel
   have hx2:=(HS.znr.get 0 rfl).cell 2 _ rfl
   by_cases sO:n < sc
   ·have hns:n < (v.at r).mK:=by show n < v.mK;rw [HOK.znr.2.2.1];exact sO
    have HNS:=znq (show n < (v.at r).mK∧(v.at r).reads≤1000000∧(v.at r).writes≤1000000 from ⟨hns,by show r≤_;omega,by show v.writes≤_;have:=HOK.znr.2.2.2.2;omega⟩)
    have HSZ:=znq (show (v.at r).size=sz∧((v.at r).read n).1=v.at (r+1) from ⟨HOK.znr.2.1,znd (by rw [HOK.znr.2.2.1];exact sO)⟩)
    clear hns
    have hV:∃ gV zlV,V=.slice gV n zlV:=by
     rcases hcas with ⟨h1,h2,_⟩ | ⟨g,cap,_,h2,_⟩
     ·exact ⟨none,0,by rw [h1];exact h2⟩
     ·exact ⟨_,_,h2⟩
    go_wp2_with fail
    refine (zrf n HV.znr HNS.znr.1 HNS.znr.2).mono ?_
    rintro e w13 ⟨ao,cap,rfl,pU,hv,hc⟩
    rw [HSZ.znr.1] at pU ⊢
    rw [HSZ.znr.2] at hv
    obtain ⟨gm,cm,tl,hee,hm1,hm2,hm3⟩:=pU
    cases hee
    have hm3:Blk w13 gm ((v.sec n).map B++tl) 5:=hm3
    have HGM:=znq hm3
    have HV:=znq hv
    have hzc:=hc.size
    have HVL:=znq (show vals.length=n∧∀ m,m < n→∃ gm cm tl,vals[m]? = some (.slice (some ⟨gm,0,none⟩) sz cm)∧sz≤cm∧base0≤gm∧Blk w13 gm ((v.sec m).map B++tl) 5 from ⟨HVL.znr.1,fun m hm=>by
     obtain ⟨a,b,t,h1,h2,h3,h4⟩:=HVL.znr.2 m hm
     exact ⟨a,b,t,h1,h2,h3,h4.chg hc (by omega) (by omega)⟩⟩)
    have HOW:=znq (show w13.ownsRow base0 22 1 V n vals from ⟨HOW.znr.1,HOW.znr.2.imp id fun ⟨g,cap,cur,h1,h2,h3,h4⟩=>⟨g,cap,cur,h1,h2,(hc.block g (Array.getElem?_eq_some_iff.1 h3).1 (by omega) (by omega)).trans h3,h4⟩⟩)
    have HS:=znq (HS.znr.chg hc sV sW (by simp;omega))
    have hgm0:base0≤gm:=by omega
    clear hv hc hm3 hx2 hm2
    have zlX:base0≤w13.heap.size:=by omega
    have hb6:=Blk.new w13 [.slice (some ⟨gm,0,none⟩) sz cap] 22
    have zmA:=zD w13 (.cells #[.slice (some ⟨gm,0,none⟩) sz cap] 22)
    have HB6:=znq (And.intro hb6 zmA)
    have hz6:base0≤(w13.alloc (.cells #[.slice (some ⟨gm,0,none⟩) sz cap] 22)).heap.size:=uj zlX zmA.size
    clear hb6 zmA
    obtain ⟨gV,zlV,hV⟩:=hV
    subst hV
    go_wp2_with (at_builtin;refine wpList_append_lies _ rfl (.tmp 85) (.tmp 87) 23 rfl base0 22 i0 (.slice none 0 0) 1 24 Tryz.underlying23 HI.znr.1 HI.znr.2.1 HI.znr.2.2.1 HI.znr.2.2.2 rfl (by decide) _ n vals rfl (zm HOW.znr HB6.znr.2) ⟨w13.heap.size,0,none⟩ 1 1 [.slice (some ⟨gm,0,none⟩) sz cap] rfl rfl HB6.znr.1.lies.news (by intro u hu;simp at hu;subst hu;rfl) (by omega) (by unfold maxLen;omega) (by omega) hz6 _ rfl ?_)
    intro g' cap' w7 rq hg7 hgg zcQ
    obtain ⟨hv7,hg0,hk7,hs7⟩:=znv HV.znr HB6.znr.2 HOW.znr hg7 (hgg.imp id fun h=>by rw [h];show _=(w13.heap.push _).size;rw [Array.size_push]) zcQ hvb zlX hcas
    have HV:=znq hv7
    have HS:=znq (hs7 _ _ _ HS.znr (by omega) (by simp;omega))
    have HOW:=znq rq
    have HVL:=znq (show (vals++[Value.slice (some ⟨gm,0,none⟩) sz cap]).length=n+1∧∀ m,m < n+1→∃ gm' cm tl,(vals++[Value.slice (some ⟨gm,0,none⟩) sz cap])[m]? = some (.slice (some ⟨gm',0,none⟩) sz cm)∧sz≤cm∧base0≤gm'∧Blk w7 gm' ((v.sec m).map B++tl) 5 from ⟨by rw [List.length_append,HVL.znr.1];rfl,fun m hm=>by
     rcases Nat.lt_or_ge m n with h | h
     ·obtain ⟨a,b,t,h1,h2,h3,h4⟩:=HVL.znr.2 m h
      exact ⟨a,b,t,by rw [bO (by rw [HVL.znr.1];exact h)];exact h1,h2,h3,hk7 _ _ h4⟩
     ·obtain rfl:n=m:=by omega
      exact ⟨gm,cap,tl,by rw [List.getElem?_append_right (by rw [HVL.znr.1];exact Nat.le_refl _),HVL.znr.1,Nat.sub_self];rfl,hm1,hgm0,hk7 _ _ HGM.znr⟩⟩)
    clear hv7 hk7 hs7 rq hg7 hgg HGM HB6
    go_wp2
    go_roundw
    case rel=>exact ⟨n+1,r+1,_,[g',vp,sp],_,rfl,by omega,by go_num,by omega,by omega,HV,HOW,HVL,HS,.inr ⟨g',cap',by omega,rfl,rfl,hg0⟩⟩
    case measure=>simp [intOf];omega
   ·obtain rfl:sc=n:=by omega
    obtain ⟨g,zlV,tlV,rfl,hgB,hg0,hcapV⟩:=YK HOW.znr (by omega)
    have HF:F=[g,vp,sp]:=by
     rcases hcas with ⟨h,_,_⟩ | ⟨g2,c2,_,e,h,_⟩
     ·omega
     ·cases e;exact h
    subst HF
    have HR:=znq (show yb wr g base0 sz sc vals tlV v from ⟨HVL.znr.1,hgB,HVL.znr.2⟩)
    clear hcas HOW HVL hgB
    obtain ⟨u,hu⟩:∃ u,u=v.pX k by8:=⟨_,rfl⟩
    have HU:=znq (show u.size=sz∧u.mK=sc∧u.writes=v.writes∧u.pg∧(∀ m,m≠lkq→u.sec m=v.sec m)∧u.sec lkq≠v.sec lkq∧(∀ r,(v.at r).harm (k:Int) by8=(u.at r,0))∧(∀ r,(u.at r).harm (k:Int) by8=(v.at r,0)) from by
     have hq:lkq=k / v.size:=by rw [HOK.znr.2.1];exact HKQ.znr.1
     rw [hu,hq]
     exact ⟨HOK.znr.2.1,HOK.znr.2.2.1,rfl,HOK.znr.1.pX _ _,fun m hm=>k7 HOK.znr.1 zlW.znr hm,vj HOK.znr.1 zlW.znr HBY.znr.1,fun r=>zns zlW.znr,fun r=>by rw [zns (v:=v.pX k by8) (by exact zlW.znr),jz HOK.znr.1 zlW.znr]⟩)
    clear hu
    go_wp2_with fail
    refine (znu (k:Int) by8 HV.znr).mono ?_
    rintro e w14 ⟨rfl,hv,hc⟩
    rw [HU.znr.2.2.2.2.2.2.1] at hv ⊢
    have HV:=znq hv
    have HR:=znq (HR.znr.chg hc hvb hg0)
    have HS:=znq (HS.znr.chg hc sV sW (by simp;omega))
    clear hv hc hx2
    go_wp2
    go_loopw [15] (fun c wr=>∃ (i r:Nat),i≤sc∧c=.int .i64 i∧r≤20000+i∧Hid (kq [g,vp,sp] q p vp sp wr (u.at r))∧Hid (yb wr g base0 sz sc vals tlV v)∧Hid (St w w.heap.size wr [(w.heap.size,zik alg sz sc a1 n1 c1 a2 n2 c2,47)])) (fun c _=>sc - (intOf c).toNat)
    case atStart=>exact ⟨0,_,by omega,rfl,by omega,HV,HR,HS⟩
    case round =>
     clear HS HV HR
     obtain ⟨i,r2,hi,rfl,hr2,HV,HR,HS⟩:=hrel
     have hx2:=(HS.znr.get 0 rfl).cell 2 _ rfl
     by_cases hilt:i < sc
     ·have HNS:=znq (show i < (u.at r2).mK∧(u.at r2).reads≤1000000∧(u.at r2).writes≤1000000 from ⟨by show i < u.mK;rw [HU.znr.2.1];exact hilt,by show r2≤_;omega,by show u.writes≤_;rw [HU.znr.2.2.1];have:=HOK.znr.2.2.2.2;omega⟩)
      have HSZ:=znq (show (u.at r2).size=sz∧((u.at r2).read i).1=u.at (r2+1) from ⟨HU.znr.1,znd (by rw [HU.znr.2.1];exact hilt)⟩)
      go_wp2_with fail
      refine (zrf i HV.znr HNS.znr.1 HNS.znr.2).mono ?_
      rintro e w15 ⟨ao,cap,rfl,pU,hv,hc⟩
      rw [HSZ.znr.1] at pU ⊢
      rw [HSZ.znr.2] at hv
      have HV:=znq hv
      have HR:=znq (HR.znr.chg hc hvb hg0)
      have HS:=znq (HS.znr.chg hc sV sW (by simp;omega))
      have HLR:=znq (show zr w15 ao ((u.sec i).map B) from pU.slice.2)
      have HLN:=znq (show (u.sec i).length=sz∧(v.sec i).length=sz from ⟨by rw [HU.znr.2.2.2.1.nV (by rw [HU.znr.2.1];exact hilt),HU.znr.1],by rw [HOK.znr.1.nV (by rw [HOK.znr.2.2.1];exact hilt),HOK.znr.2.1]⟩)
      clear pU hv hc hx2
      obtain ⟨gm,cm,hgm,hgl⟩:=HR.znr.at hilt
      have F3:=fun (z:zG w15.drew)=>(((Below.refl w15.heap.size w15).drew.trans z.later).cell (p:=⟨g,i,none⟩) (block_lt_of_cell hgm)).trans hgm
      have F4:=fun (z:zG w15.drew)=>((HS.znr.drew.later z.later).get 0 rfl).cell 1 _ rfl
      have E2:(k:Int).tdiv (sz:Int)=(lkq:Int):=by rw [gy (by omega),HKQ.znr.1];rfl
      have E3:(sz==0)=false:=by simp;omega
      by_cases hik:i=lkq
      ·obtain rfl:lkq=i:=hik.symm
       have F1:=fun (z:zG w15.drew)=>yL z.val ao sz cap (u.sec lkq) HLN.znr.1 (HLR.znr.below ((Below.refl w15.heap.size w15).drew.trans z.later))
       have F2:=fun (z:zG w15.drew)=>yL z.val (some ⟨gm,0,none⟩) sz cm (v.sec lkq) HLN.znr.2 (hgl.below ((Below.refl w15.heap.size w15).drew.trans z.later))
       have E1:((str (u.sec lkq)).toList==(str (v.sec lkq)).toList)=false:=by rw [znw];exact beq_eq_false_iff_ne.2 HU.znr.2.2.2.2.2.1
       generalize str (u.sec lkq)=s1 at *
       generalize str (v.sec lkq)=s2 at *
       clear hgl hgm
       go_wp2_with fail
       refine zn [0,1,2,3,4,5,6,7,8,9,10,11,12,13,14,15,16,17,18,19] (by kernel_rfl) (by kernel_rfl) ?_
       rintro w16 rfl
       refine mqR ?_
       clear F1 F2 F3 F4 E1 E2 E3
       have HS:=znq HS.znr.drew
       have HV:=znq (HV.znr.below (Below.refl w15.heap.size w15).drew)
       have HR:=znq (HR.znr.below (Below.refl w15.heap.size w15).drew)
       refine zo ?_
       go_wp2
       go_roundw
       case rel=>exact ⟨lkq+1,r2+1,by omega,by go_num,by omega,HV,HR,HS⟩
       case measure=>simp [intOf];omega
      ·have HE:=znq (show u.sec i=v.sec i from HU.znr.2.2.2.2.1 i hik)
       have F1:=fun (z:zG w15.drew)=>yL z.val ao sz cap (v.sec i) HLN.znr.2 (by have h:=HLR.znr.below ((Below.refl w15.heap.size w15).drew.trans z.later);rw [HE.znr] at h;exact h)
       have F2:=fun (z:zG w15.drew)=>yL z.val (some ⟨gm,0,none⟩) sz cm (v.sec i) HLN.znr.2 (hgl.below ((Below.refl w15.heap.size w15).drew.trans z.later))
       have E1:((i:Int)==(lkq:Int))=false:=by simp;omega
       generalize str (v.sec i)=s1 at *
       clear hgl hgm
       go_wp2_with fail
       refine zn [0,1,2,3,4,5,6,7,8,9,10,11,12,13,14,15,16,17,18,19] (by kernel_rfl) (by kernel_rfl) ?_
       rintro w16 rfl
       refine mqR ?_
       clear F1 F2 F3 F4 E1 E2 E3
       have HS:=znq HS.znr.drew
       have HV:=znq (HV.znr.below (Below.refl w15.heap.size w15).drew)
       have HR:=znq (HR.znr.below (Below.refl w15.heap.size w15).drew)
       refine zo ?_
       go_wp2
       go_roundw
       case rel=>exact ⟨i+1,r2+1,by omega,by go_num,by omega,HV,HR,HS⟩
       case measure=>simp [intOf];omega
     ·obtain rfl:sc=i:=by omega
      have hx1:=(HS.znr.get 0 rfl).cell 1 _ rfl
      have E2:(k:Int).tdiv (sz:Int)=(lkq:Int):=by rw [gy (by omega),HKQ.znr.1];rfl
      have E3:(sz==0)=false:=by simp;omega
      go_wp2_with fail
      refine (znu (k:Int) by8 HV.znr).mono ?_
      rintro e w17 ⟨rfl,hv,hc⟩
      rw [HU.znr.2.2.2.2.2.2.2] at hv ⊢
      have HV:=znq hv
      have HR:=znq (HR.znr.chg hc hvb hg0)
      have HS:=znq (HS.znr.chg hc sV sW (by simp;omega))
      clear hv hc hx1 hx2
      have hx1:=(HS.znr.get 0 rfl).cell 1 _ rfl
      have HNS:=znq (show lkq < (v.at r2).mK∧(v.at r2).reads≤1000000∧(v.at r2).writes≤1000000 from ⟨by show lkq < v.mK;rw [HOK.znr.2.2.1];exact zlZ,by show r2≤_;omega,by show v.writes≤_;have:=HOK.znr.2.2.2.2;omega⟩)
      have HSZ:=znq (show (v.at r2).size=sz from HOK.znr.2.1)
      go_wp2_with fail
      refine (zrf lkq HV.znr HNS.znr.1 HNS.znr.2).mono ?_
      rintro e w18 ⟨ao,cap,rfl,pU,hv,hc⟩
      rw [HSZ.znr] at pU ⊢
      have HR:=znq (HR.znr.chg hc hvb hg0)
      have HS:=znq (HS.znr.chg hc sV sW (by simp;omega))
      have HLR:=znq (show zr w18 ao ((v.sec lkq).map B) from pU.slice.2)
      have HLN:=znq (show (v.sec lkq).length=sz from by rw [HOK.znr.1.nV (by rw [HOK.znr.2.2.1];exact zlZ),HOK.znr.2.1])
      clear pU hv hc hx1
      obtain ⟨gm,cm,hgm,hgl⟩:=HR.znr.at zlZ
      have F1:=fun (z:zG w18.drew)=>yL z.val ao sz cap (v.sec lkq) HLN.znr (HLR.znr.below ((Below.refl w18.heap.size w18).drew.trans z.later))
      have F2:=fun (z:zG w18.drew)=>yL z.val (some ⟨gm,0,none⟩) sz cm (v.sec lkq) HLN.znr (hgl.below ((Below.refl w18.heap.size w18).drew.trans z.later))
      have F3:=fun (z:zG w18.drew)=>(((Below.refl w18.heap.size w18).drew.trans z.later).cell (p:=⟨g,lkq,none⟩) (block_lt_of_cell hgm)).trans hgm
      have F4:=fun (z:zG w18.drew)=>((HS.znr.drew.later z.later).get 0 rfl).cell 1 _ rfl
      generalize str (v.sec lkq)=s1 at *
      clear hgl hgm
      go_wp2_with fail
      refine zn [0,1,2,3,4,5,6,7,8,9,10,11,12,13,14,15,16,17,18,19] (by kernel_rfl) (by kernel_rfl) ?_
      rintro w19 rfl
      refine mqR ?_
      clear F1 F2 F3 F4 E2 E3
      have HS:=znq HS.znr.drew
      generalize w18.drew=w19 at *
      refine zi rfl rfl (by rfl) (fun K hK=>?_)
      go_simp
      refine (zra _ (HG.znr.below HS.znr.bel) (HBG.znr.below HS.znr.bel)).mono ?_
      rintro e w20 ⟨rfl,hbel⟩
      have HS:=znq (HS.znr.later hbel)
      go_simp
      refine hK _ _ hbel ?_
      clear hK K hbel
      refine mqR ?_
      refine zo ?_
      go_wp2
      go_ret
      exact ⟨rfl,HS.znr.bel⟩
end Go.Proofs.YtjaioajjfiaheaaGreatDoor

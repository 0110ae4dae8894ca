/-
  Texts of this claim, one behind the other.
-/
import Derived.Test.YtbpghohkhngdfaaGreatDoorQ1
import Derived.Test.YtbpghohkhngdfaaGreatDoorQ26
import Derived.Test.YtbpghohkhngdfaaGreatDoorQ14
import Derived.Lib.Hide
set_option linter.unusedVariables false
set_option linter.unusedSimpArgs false
set_option maxHeartbeats 16000000
set_option maxRecDepth 100000
namespace Go.Proofs.YtbpghohkhngdfaaGreatDoor
open Go.RowKit Go.Mem Go.Ops Go.Cells Go.Oct Go.Gf Go.Trn Go.Aes Go.Ring Go.Ezk Go.Ezh Go.Ezt Go.Ezc Go.Aez Go.Blake Go.CutP Go.Fl Go.Adi Go.Hct Go.Wid
attribute [local irreducible] zE zN zO zM yu
theorem VW:(Tryz.prog.info? 24).map (·.zero)=some (some (.agg (yf 0 none 0 0 none 0 0 none 0 0 false).toArray)):=by kernel_rfl
theorem KD:(Tryz.prog.info? 22).map (·.size)=some 1:=by kernel_rfl
def zfm (base:Nat) (w:World) (v:Value) (n:Nat) (xs:List UInt8):Prop:=∃ ao c,v=.slice ao n c∧n≤c∧c≤maxLen∧zr w ao (xs.map B)∧(0 < n→w.ownsRow base 5 1 v n (xs.map B))
theorem zfm.later {base n:Nat} {w w':World} {v:Value} {xs:List UInt8} (h:zfm base w v n xs) (hb:Below w.heap.size w w'):zfm base w' v n xs:=by
 obtain ⟨ao,c,e,h1,h2,h3,h4⟩:=h
 exact ⟨ao,c,e,h1,h2,h3.below hb,fun h=>zm (h4 h) hb⟩
structure zgl (D:Nat→Bool) (base B1 B2:Nat) (w:World) (v1 v2 v3 c1 c2 c3:Value) (n1 n2 n3:Nat) (x1 x2 x3:List UInt8):Prop where
 e1:D 0=true→∃ b,v1=.slice (some b) 0 0
 e2:D 4=true→∃ b,v2=.slice (some b) 0 0
 e3:D 8=true→∃ b,v3=.slice (some b) 0 0
 k7:D 7=true→D 3=true
 k11:D 11=true→D 7=true
 r1:D 3=true→zfm base w c1 n1 x1
 r2:D 7=true→zfm B1 w c2 n2 x2∧base≤B1∧(∀ k,c1.ownBlock=some k→k < B1)∧B1≤w.heap.size
 r3:D 11=true→zfm B2 w c3 n3 x3∧B1≤B2
theorem zgl.later {D:Nat→Bool} {base B1 B2:Nat} {w w':World} {v1 v2 v3 c1 c2 c3:Value} {n1 n2 n3:Nat} {x1 x2 x3:List UInt8} (h:zgl D base B1 B2 w v1 v2 v3 c1 c2 c3 n1 n2 n3 x1 x2 x3) (hb:Below w.heap.size w w'):zgl D base B1 B2 w' v1 v2 v3 c1 c2 c3 n1 n2 n3 x1 x2 x3 :=
 ⟨h.e1,h.e2,h.e3,h.k7,h.k11,fun d=>(h.r1 d).later hb,fun d=>⟨(h.r2 d).1.later hb,(h.r2 d).2.1,(h.r2 d).2.2.1,Nat.le_trans (h.r2 d).2.2.2 hb.size⟩,fun d=>⟨(h.r3 d).1.later hb,(h.r3 d).2⟩⟩
theorem zng {base n:Nat} {w:World} {v:Value} {xs:List UInt8} (h:zfm base w v n xs) (h0:0 < n):∀ k,v.ownBlock=some k→k < w.heap.size:=fun k hk=>by
 obtain ⟨ao,c,e,h1,h2,h3,h4⟩:=h
 exact ((h4 h0).lt k hk).2
theorem kept_law21 (alg:Int) (a1:Option Addr) (n1 c1:Nat) (b1:List UInt8) (a2:Option Addr) (n2 c2:Nat) (b2:List UInt8) (a3:Option Addr) (n3 c3:Nat) (b3:List UInt8) (back:Bool) (w:World)
  (hb1:b1.length=n1) (hc1:n1≤c1) (hl1:zr w a1 (b1.map B)) (hb2:b2.length=n2) (hc2:n2≤c2) (hl2:zr w a2 (b2.map B)) (hb3:b3.length=n3) (hc3:n3≤c3) (hl3:zr w a3 (b3.map B)) (hg:Globals w) (hbg:qD w) :
  Calls Tryz.prog 5 #[.agg (yf alg a1 n1 c1 a2 n2 c2 a3 n3 c3 back).toArray] w fun e w'=>e=.returned (.bool true)∧Below w.heap.size w w':=by
 have HS:=znq (St.start w)
 by_cases hm:Y2 alg n1 n2 n3=true
 ·have hmm:=of_decide_eq_true hm
  obtain ⟨⟨hs1,hs2,hs3⟩,hw,hle⟩:=hmm
  have HM:=znq (show Y2 alg n1 n2 n3=true∧True from ⟨hm,trivial⟩)
  obtain ⟨k,hk⟩:∃ k,k=jy alg b1:=⟨_,rfl⟩
  have HK:=znq (show jy alg b1=k∧k.Fit∧k.least≤n3 from ⟨hk.symm,by rw [hk];exact we _ _,by rw [hk,jz (by rw [hb1];exact hw)];exact hle⟩)
  have hn1:0 < n1:=by rcases Q1 alg hw with ⟨_,h⟩ | ⟨_,h⟩ | ⟨_,h⟩ <;> omega
  have hn3:0 < n3:=by have:=HK.znr.2.2;cases k <;> simp [ku.least] at this <;> omega
  have HW:=znq hw
  have HB1:=znq hb1
  have HL1:=znq hl1
  have HB2:=znq hb2
  have HL2:=znq hl2
  have HB3:=znq hb3
  have HL3:=znq hl3
  have HG:=znq hg
  have HBG:=znq hbg
  obtain ⟨y,hy⟩:∃ y,y=xM k b2 b3 back:=⟨_,rfl⟩
  have HY:=znq (show xM k b2 b3 back=y∧y.length=n3 from ⟨hy.symm,by rw [hy,q7 _ _ (by rw [hb3];exact HK.znr.2.2)];exact hb3⟩)
  clear hm hw hb1 hl1 hb2 hl2 hb3 hl3 hg hbg hk hy hle
  go_enter Tryz.func5,Tryz.ntmps5
  go_wp2_with (refine zh 24 _ (yf alg a1 n1 c1 a2 n2 c2 a3 n3 c3 back) _ rfl rfl rfl rfl ?_)
  intro w1 hb hbel;have HS:=znq (HS.znr.push hb hbel);clear hb hbel
  go_wp2_with (refine (HS.znr.get 0 rfl).wload rfl rfl rfl zx rfl ?_)
  refine (wh alg a1 n1 c1 a2 n2 c2 a3 n3 c3 back _).mono ?_
  rintro e w2 ⟨rfl,hbel⟩
  rw [HM.znr.1]
  have HS:=znq (HS.znr.later hbel)
  clear hbel
  have hx1:=fun (z:xR (fun u v=>Below u.heap.size u v) w2.drew)=>((HS.znr.drew.later z.rel).get 0 rfl).cell 1 _ rfl
  have hx2:=fun (z:xR (fun u v=>Below u.heap.size u v) w2.drew)=>((HS.znr.drew.later z.rel).get 0 rfl).cell 2 _ rfl
  have hx3:=fun (z:xR (fun u v=>Below u.heap.size u v) w2.drew)=>((HS.znr.drew.later z.rel).get 0 rfl).cell 3 _ rfl
  have hz2:=HS.znr.size
  have HSX:=znq (HS.znr.get 0 rfl).lt
  go_wp2_with fail
  refine jS (fun u v=>Below u.heap.size u v) [] [1,2,5,6,9,10] [0,3,4,7,8,11] [(12,true),(13,true),(14,true)] [(3,[0]),(7,[3,4]),(11,[7,8])] (fun D x wx=>∃ v22 v26 v30 v25 v29 v33 B1 B2,x={ tmps:=#[.agg (yf alg a1 n1 c1 a2 n2 c2 a3 n3 c3 back).toArray,.pointer (some ⟨w.heap.size,0,none⟩),.bool false,undef,undef,undef,undef,undef,undef,undef,undef,undef,undef,undef,undef,undef,undef,undef,undef,.agg (yf alg a1 n1 c1 a2 n2 c2 a3 n3 c3 back).toArray,.bool true,.bool false,v22,.pointer (some ⟨w.heap.size,1,none⟩),.slice a1 n1 c1,v25,v26,.pointer (some ⟨w.heap.size,2,none⟩),.slice a2 n2 c2,v29,v30,.pointer (some ⟨w.heap.size,3,none⟩),.slice a3 n3 c3,v33,undef,undef,undef,undef,undef,undef,undef,undef,undef,undef,undef,undef,undef,undef,undef,undef,undef,undef,undef,undef,undef,undef,undef,undef,undef,undef,undef,undef,undef,undef,undef,undef,undef,undef,undef,undef,undef,undef,undef,undef,undef,undef,undef,undef,undef,undef,undef,undef,undef,undef,undef,undef,undef,undef,undef,undef,undef,undef,undef,undef,undef,undef,undef,undef,undef,undef,undef,undef,undef,undef,undef,undef,undef,undef,undef,undef,undef,undef,undef,undef,undef,undef,undef,undef,undef,undef,undef,undef,undef,undef,undef,undef,undef,undef,undef,undef,undef,undef,undef,undef,undef,undef,undef,undef,undef,undef,undef,undef,undef,undef,undef,undef,undef,undef,undef,undef,undef,undef,undef,undef,undef,undef],defers:=[] }∧Hid (St w w.heap.size wx [(w.heap.size,yf alg a1 n1 c1 a2 n2 c2 a3 n3 c3 back,24)])∧w2.heap.size≤wx.heap.size∧Hid (zgl D w2.heap.size B1 B2 wx v22 v26 v30 v25 v29 v33 n1 n2 n3 b1 b2 b3)) (fun a=>Below.refl _ _) (fun _ _ _ h1 h2=>h1.trans (h2.mono h1.size)) (by kernel_rfl) (by kernel_rfl) ?_ ?_ ?_
  ·rintro w8 rfl
   have HS:=znq HS.znr.drew
   repeat (refine qH rfl rfl (fun K hK=>?_);go_big_quiet_step (fail);refine wpQuiet_nil (hK _ ?_);clear hK K)
   refine vG ⟨_,_,_,_,_,_,0,0,rfl,HS,Nat.le_refl _,znq ⟨?_,?_,?_,?_,?_,?_,?_,?_⟩⟩ <;> (intro h;cases h)
  ·clear hx1 hx2 hx3
   rintro D x wx kk hkM hDk hneed ⟨v22,v26,v30,v25,v29,v33,B1,B2,rfl,HS,hsz,HT⟩
   simp only [List.mem_cons,List.not_mem_nil,or_false] at hkM
   rcases hkM with rfl | rfl | rfl | rfl | rfl | rfl
   ·refine yc rfl rfl (fun K hK=>?_)
    go_simp
    refine hK _ _ ?_
    have hbel:=zD wx (.cells #[] 5)
    have HT:=HT.znr.later hbel
    exact ⟨fun _=>hbel,_,v26,v30,v25,v29,v33,B1,B2,rfl,HS.znr.later hbel,Nat.le_trans hsz hbel.size,⟨fun _=>⟨_,rfl⟩,fun d=>HT.e2 (by simpa using d),fun d=>HT.e3 (by simpa using d),fun d=>by simpa using HT.k7 (by simpa using d),fun d=>by simpa using HT.k11 (by simpa using d),fun d=>HT.r1 (by simpa using d),fun d=>HT.r2 (by simpa using d),fun d=>HT.r3 (by simpa using d)⟩⟩
   ·obtain ⟨b0,rfl⟩:=HT.znr.e1 (hneed 0 (by simp [yE]))
    refine yc rfl rfl (fun K hK=>?_)
    refine XQ (.tmp 22) (.tmp 24) 22 5 (.int .u8 0) 1 rfl Tryz.underlying22 yq rfl b0 rfl a1 n1 c1 (b1.map B) rfl (by rw [List.length_map];exact HB1.znr) (HL1.znr.below HS.znr.bel) (zg _) (by omega) rfl (fun a' c' w' h1 h2 h3 h4 hbel=>hK _ _ ?_)
    have HT:=HT.znr.later hbel
    exact ⟨fun _=>hbel,_,v26,v30,_,v29,v33,B1,B2,rfl,HS.znr.later hbel,Nat.le_trans hsz hbel.size,⟨fun d=>HT.e1 (by simpa using d),fun d=>HT.e2 (by simpa using d),fun d=>HT.e3 (by simpa using d),fun _=>by simp,fun d=>by simpa using HT.k11 (by simpa using d),fun _=>⟨a',c',rfl,h1,h2,h3,fun h=>yi (h4 h) hsz⟩,fun d=>absurd (HT.k7 (by simpa using d)) (by rw [hDk];simp),fun d=>absurd (HT.k7 (HT.k11 (by simpa using d))) (by rw [hDk];simp)⟩⟩
   ·refine yc rfl rfl (fun K hK=>?_)
    go_simp
    refine hK _ _ ?_
    have hbel:=zD wx (.cells #[] 5)
    have HT:=HT.znr.later hbel
    exact ⟨fun _=>hbel,v22,_,v30,v25,v29,v33,B1,B2,rfl,HS.znr.later hbel,Nat.le_trans hsz hbel.size,⟨fun d=>HT.e1 (by simpa using d),fun _=>⟨_,rfl⟩,fun d=>HT.e3 (by simpa using d),fun d=>by simpa using HT.k7 (by simpa using d),fun d=>by simpa using HT.k11 (by simpa using d),fun d=>HT.r1 (by simpa using d),fun d=>HT.r2 (by simpa using d),fun d=>HT.r3 (by simpa using d)⟩⟩
   ·obtain ⟨b0,rfl⟩:=HT.znr.e2 (hneed 4 (by simp [yE]))
    have hc1:=zng (HT.znr.r1 (hneed 3 (by simp [yE]))) hn1
    refine yc rfl rfl (fun K hK=>?_)
    refine XQ (.tmp 26) (.tmp 28) 22 5 (.int .u8 0) 1 rfl Tryz.underlying22 yq rfl b0 rfl a2 n2 c2 (b2.map B) rfl (by rw [List.length_map];exact HB2.znr) (HL2.znr.below HS.znr.bel) (zg _) (by omega) rfl (fun a' c' w' h1 h2 h3 h4 hbel=>hK _ _ ?_)
    have HT:=HT.znr.later hbel
    exact ⟨fun _=>hbel,v22,_,v30,v25,_,v33,wx.heap.size,B2,rfl,HS.znr.later hbel,Nat.le_trans hsz hbel.size,⟨fun d=>HT.e1 (by simpa using d),fun d=>HT.e2 (by simpa using d),fun d=>HT.e3 (by simpa using d),fun _=>by simpa using hneed 3 (by simp [yE]),fun _=>by simp,fun d=>HT.r1 (by simpa using d),fun _=>⟨⟨a',c',rfl,h1,h2,h3,fun h=>h4 h⟩,hsz,hc1,hbel.size⟩,fun d=>absurd (HT.k11 (by simpa using d)) (by rw [hDk];simp)⟩⟩
   ·refine yc rfl rfl (fun K hK=>?_)
    go_simp
    refine hK _ _ ?_
    have hbel:=zD wx (.cells #[] 5)
    have HT:=HT.znr.later hbel
    exact ⟨fun _=>hbel,v22,v26,_,v25,v29,v33,B1,B2,rfl,HS.znr.later hbel,Nat.le_trans hsz hbel.size,⟨fun d=>HT.e1 (by simpa using d),fun d=>HT.e2 (by simpa using d),fun _=>⟨_,rfl⟩,fun d=>by simpa using HT.k7 (by simpa using d),fun d=>by simpa using HT.k11 (by simpa using d),fun d=>HT.r1 (by simpa using d),fun d=>HT.r2 (by simpa using d),fun d=>HT.r3 (by simpa using d)⟩⟩
   ·obtain ⟨b0,rfl⟩:=HT.znr.e3 (hneed 8 (by simp [yE]))
    have hc2:=(HT.znr.r2 (hneed 7 (by simp [yE]))).2.2.2
    refine yc rfl rfl (fun K hK=>?_)
    refine XQ (.tmp 30) (.tmp 32) 22 5 (.int .u8 0) 1 rfl Tryz.underlying22 yq rfl b0 rfl a3 n3 c3 (b3.map B) rfl (by rw [List.length_map];exact HB3.znr) (HL3.znr.below HS.znr.bel) (zg _) (by omega) rfl (fun a' c' w' h1 h2 h3 h4 hbel=>hK _ _ ?_)
    have HT:=HT.znr.later hbel
    exact ⟨fun _=>hbel,v22,v26,_,v25,v29,_,B1,wx.heap.size,rfl,HS.znr.later hbel,Nat.le_trans hsz hbel.size,⟨fun d=>HT.e1 (by simpa using d),fun d=>HT.e2 (by simpa using d),fun d=>HT.e3 (by simpa using d),fun d=>by simpa using HT.k7 (by simpa using d),fun _=>by simpa using hneed 7 (by simp [yE]),fun d=>HT.r1 (by simpa using d),fun d=>HT.r2 (by simpa using d),fun _=>⟨⟨a',c',rfl,h1,h2,h3,fun h=>h4 h⟩,hc2⟩⟩⟩
  ·clear hx1 hx2 hx3
   rintro x wx ⟨v22,v26,v30,v25,v29,v33,B1,B2,rfl,HS,hsz,HT⟩
   obtain ⟨ak,ck,rfl,hck,hckm,hlk,hok⟩:=HT.znr.r1 rfl
   obtain ⟨⟨at',ct,rfl,hct,hctm,hlt',hot⟩,hB1,hk1,hB1s⟩:=HT.znr.r2 rfl
   obtain ⟨⟨am,cm,rfl,hcm,hcmm,hlm,hom⟩,hB2⟩:=HT.znr.r3 rfl
   obtain ⟨g1,_,tl1,e1,hbk1,hge1,_⟩:=YK (hok hn1) hn1
   cases e1
   obtain ⟨gm,_,tlm,e3,hbkm,hgem,_⟩:=YK (hom hn3) hn3
   cases e3
   have hg1B:g1 < B1:=hk1 g1 rfl
   have hgmx:=hbkm.lt
   have hg1x:=hbk1.lt
   have hbx2:w.heap.size < w2.heap.size:=HSX.znr
   obtain ⟨gt,hgt1,hgtx,htw⟩:∃ gt,g1 < gt∧gt < wx.heap.size∧Zt (fun i=>i=gt) wx (fun w'=>zr w' at' (b2.map B)):=by
    by_cases h0:n2=0
    ·obtain rfl:b2=[]:=List.eq_nil_of_length_eq_zero (by rw [HB2.znr];exact h0)
     exact ⟨gm,by omega,hgmx,fun w' _=>zr.nil _ _⟩
    ·obtain ⟨g,_,tl,e2,hbk,hge,_⟩:=YK (hot (by omega)) (by omega)
     cases e2
     exact ⟨g,by omega,hbk.lt,fun w' hu=>ZY (hbk.up hu rfl)⟩
   have HTW:=znq htw
   have HS:=znq ((HS.znr.add hbk1).add hbkm)
   clear HT hlk hok hlt' hot hlm hom hk1 hbk1 hbkm htw hckm hctm hcmm
   dsimp only
   iterate 3 refine m1K ?_
   refine kN ?_
   have hzx:=HS.znr.size
   go_wp2_with (refine (HS.znr.get 2 rfl).wload rfl rfl rfl zx rfl ?_)
   refine (xU alg a1 n1 c1 b1 a2 n2 c2 a3 n3 c3 back _ HB1.znr HW.znr hc1 (HL1.znr.below HS.znr.bel) (HG.znr.below HS.znr.bel) (HBG.znr.below HS.znr.bel)).mono ?_
   rintro e w4 ⟨cp1,rfl,hst,hbel⟩
   rw [HK.znr.1] at hst
   have HC1:=znq hst.stays
   have HTW:=znq (HTW.znr.later hbel)
   have HS:=znq (HS.znr.later hbel)
   have hz4:=hbel.size
   clear hst hbel
   go_wp2_with (first | (refine (HS.znr.get 2 rfl).wload rfl rfl rfl zx rfl ?_) | refine ze 24 (yf 0 none 0 0 none 0 0 none 0 0 false) _ rfl rfl VW rfl ?_)
   intro w5 hb hbel
   have HS:=znq (HS.znr.push hb hbel)
   have HC1:=znq (HC1.znr.later hbel)
   have HTW:=znq (HTW.znr.later hbel)
   have hlt5:=hb.lt
   clear hb hbel
   go_wp2_with (refine (HS.znr.get 0 rfl).wstore rfl rfl rfl (cs:=yf alg a1 n1 c1 a2 n2 c2 a3 n3 c3 back) rfl zx rfl rfl (by simp [yf,Value.oneCell']) ?_)
   intro w6 hb ho
   generalize w4.heap.size=yb at *
   have HS:=znq (show St w w.heap.size w6 [(yb,yf alg a1 n1 c1 a2 n2 c2 a3 n3 c3 back,24),(gm,b3.map B++tlm,5),(g1,b1.map B++tl1,5),(w.heap.size,yf alg a1 n1 c1 a2 n2 c2 a3 n3 c3 back,24)] from HS.znr.change 0 hb ho (by omega) (by simp;omega))
   have HC1:=znq (HC1.znr.only ho (by omega))
   have HTW:=znq (HTW.znr.only ho (by omega))
   have hlt6:yb < w6.heap.size:=by rw [ho.size];exact hlt5
   clear hb ho
   go_wp2_with (refine (HS.znr.get 0 rfl).wset (i:=1) (v:=.slice (some ⟨g1,0,none⟩) n1 ck) rfl rfl rfl rfl KD rfl rfl (by simp [yf]) ?_)
   intro w7 hb ho
   have HS:=znq (show St w w.heap.size w7 [(yb,yf alg (some ⟨g1,0,none⟩) n1 ck a2 n2 c2 a3 n3 c3 back,24),(gm,b3.map B++tlm,5),(g1,b1.map B++tl1,5),(w.heap.size,yf alg a1 n1 c1 a2 n2 c2 a3 n3 c3 back,24)] from HS.znr.change 0 hb ho (by omega) (by simp;omega))
   have HC1:=znq (HC1.znr.only ho (by omega))
   have HTW:=znq (HTW.znr.only ho (by omega))
   have hlt7:yb < w7.heap.size:=by rw [ho.size];exact hlt6
   clear hb ho
   go_wp2_with (refine (HS.znr.get 0 rfl).wload rfl rfl rfl zx rfl ?_)
   refine (xU alg (some ⟨g1,0,none⟩) n1 ck b1 a2 n2 c2 a3 n3 c3 back _ HB1.znr HW.znr hck (ZY (HS.znr.get 2 rfl)) (HG.znr.below HS.znr.bel) (HBG.znr.below HS.znr.bel)).mono ?_
   rintro e w8 ⟨cp2,rfl,hst,hbel⟩
   rw [HK.znr.1] at hst
   have HC2:=znq hst.stays
   have HC1:=znq (HC1.znr.later hbel)
   have HTW:=znq (HTW.znr.later hbel)
   have HS:=znq (HS.znr.later hbel)
   have hz8:=hbel.size
   clear hst hbel
   go_wp2
   go_loopw [11] (fun c wr=>∃ (i:Nat) (ls:List UInt8),i≤n1∧c=.int .i64 i∧Hid (ls.length=n1∧True)∧Hid (St w w.heap.size wr [(yb,yf alg (some ⟨g1,0,none⟩) n1 ck a2 n2 c2 a3 n3 c3 back,24),(gm,b3.map B++tlm,5),(g1,ls.map B++tl1,5),(w.heap.size,yf alg a1 n1 c1 a2 n2 c2 a3 n3 c3 back,24)])∧Hid (zI g1 w8 wr)) (fun c _=>n1 - (intOf c).toNat)
   case atStart=>exact ⟨0,b1,by omega,rfl,⟨HB1.znr,trivial⟩,HS,zI.refl _ _⟩
   case round =>
    clear HS
    obtain ⟨i,ls,hi,rfl,HLL,HS,HO⟩:=hrel
    by_cases hlt:i < n1
    ·obtain ⟨x,hx⟩:∃ x,ls[i]? = some x:=⟨ls[i]'(by rw [HLL.znr.1];exact hlt),by simp⟩
     have hc:=(HS.znr.get 2 rfl).cell i (B x) (by rw [List.getElem?_append_left (by rw [List.length_map,HLL.znr.1];exact hlt)];exact zU hx)
     have HLN:=znq (show (ls.set i (ya x 255)).length=n1∧True from ⟨by rw [List.length_set];exact HLL.znr.1,trivial⟩)
     have HSE:=znq (show (ls.map B++tl1).set i (B (ya x 255))=(ls.set i (ya x 255)).map B++tl1∧True from ⟨by rw [List.set_append_left _ _ (by rw [List.length_map,HLL.znr.1];exact hlt),ym],trivial⟩)
     have hfit:i < (ls.map B++tl1).length:=by rw [List.length_append,List.length_map,HLL.znr.1];omega
     clear hx
     go_wp2_with (refine (HS.znr.get 2 rfl).wset (i:=i) (v:=B (ya x 255)) rfl rfl rfl rfl zl rfl rfl hfit ?_)
     intro w' hb' ho'
     rw [HSE.znr.1] at hb'
     have HS:=znq (HS.znr.change 2 hb' ho' (by omega) (by simp;omega))
     have HO:=znq (HO.znr.trans (zI.of_only ho'))
     clear hb' ho' hc
     go_wp2
     go_roundw
     case rel=>exact ⟨i+1,_,by omega,by go_num,HLN,HS,HO⟩
     case measure=>simp [intOf];omega
    ·obtain rfl:n1=i:=by omega
     clear hlt hi
     obtain ⟨xs,hxs⟩:∃ xs,xs=ls:=⟨_,rfl⟩
     rw [← hxs] at HLL HS
     clear hxs
     have HC1:=znq (HC1.znr.onlyB HO.znr (by omega))
     have HC2:=znq (HC2.znr.onlyB HO.znr (by omega))
     have HTW:=znq (HTW.znr.onlyB HO.znr (by omega))
     have hzr:=HO.znr.size
     clear HO HLL
     go_wp2_with (refine (HS.znr.get 0 rfl).wset (i:=2) (v:=.slice at' n2 ct) rfl rfl rfl rfl KD rfl rfl (by simp [yf]) ?_)
     intro w9 hb ho
     have HS:=znq (show St w w.heap.size w9 [(yb,yf alg (some ⟨g1,0,none⟩) n1 ck at' n2 ct a3 n3 c3 back,24),(gm,b3.map B++tlm,5),(g1,xs.map B++tl1,5),(w.heap.size,yf alg a1 n1 c1 a2 n2 c2 a3 n3 c3 back,24)] from HS.znr.change 0 hb ho (by omega) (by simp;omega))
     have HC1:=znq (HC1.znr.only ho (by omega))
     have HC2:=znq (HC2.znr.only ho (by omega))
     have HTW:=znq (HTW.znr.only ho (by omega))
     have hz9:=ho.size
     clear hb ho
     have hx3:=(HS.znr.get 3 rfl).cell 3 _ rfl
     have hx4:=(HS.znr.get 3 rfl).cell 4 _ rfl
     go_wp2_with (refine (HS.znr.get 3 rfl).wload rfl rfl rfl zx rfl ?_)
     refine (q8 alg a1 n1 c1 a2 n2 c2 a3 n3 c3 back cp1 k b2 a3 n3 c3 b3 back _ HC1.znr.self HB2.znr (by omega) hc2 (HL2.znr.below HS.znr.bel) HB3.znr HK.znr.2.2 (by omega) hc3 (HL3.znr.below HS.znr.bel)).mono ?_
     rintro e w10 ⟨v4,rfl,hown,hbel⟩
     rw [HY.znr.1] at hown
     obtain ⟨g4,c4,tl4,rfl,hb4,hge4,hc4⟩:=YK hown hn3
     have HS:=znq ((HS.znr.later hbel).add hb4)
     have HC2:=znq (HC2.znr.later hbel)
     have HTW:=znq (HTW.znr.later hbel)
     have hlt4:=hb4.lt
     clear hown hb4 hbel hx3 hx4 HC1
     have hx4:=(HS.znr.get 4 rfl).cell 4 _ rfl
     go_wp2_with (refine (HS.znr.get 1 rfl).wload rfl rfl rfl zx rfl ?_)
     refine (q8 alg (some ⟨g1,0,none⟩) n1 ck at' n2 ct a3 n3 c3 back cp2 k b2 (some ⟨gm,0,none⟩) n3 cm b3 back _ HC2.znr.self HB2.znr (by omega) hct HTW.znr.self HB3.znr HK.znr.2.2 (by omega) hcm (ZY (HS.znr.get 2 rfl))).mono ?_
     rintro e w11 ⟨v5,rfl,hown,hbel⟩
     rw [HY.znr.1] at hown
     obtain ⟨g5,c5,tl5,rfl,hb5,hge5,hc5⟩:=YK hown hn3
     have HS:=znq ((HS.znr.later hbel).add hb5)
     have HC2:=znq (HC2.znr.later hbel)
     have HTW:=znq (HTW.znr.later hbel)
     have hlt5:=hb5.lt
     clear hown hb5 hbel hx4
     have hx2:=(HS.znr.get 5 rfl).cell 2 _ rfl
     have hx3:=(HS.znr.get 5 rfl).cell 3 _ rfl
     have F1:=yL w11 (some ⟨g4,0,none⟩) n3 c4 y HY.znr.2 (ZY (HS.znr.get 1 rfl))
     have F2:=yL w11 (some ⟨g5,0,none⟩) n3 c5 y HY.znr.2 (ZY (HS.znr.get 0 rfl))
     have F3:=yL w11 at' n2 ct b2 HB2.znr HTW.znr.self
     have F4:=yL w11 a2 n2 c2 b2 HB2.znr (HL2.znr.below HS.znr.bel)
     have F5:=yL w11 (some ⟨gm,0,none⟩) n3 cm b3 HB3.znr (ZY (HS.znr.get 3 rfl))
     have F6:=yL w11 a3 n3 c3 b3 HB3.znr (HL3.znr.below HS.znr.bel)
     generalize str y=s1 at *
     generalize str b2=s2 at *
     generalize str b3=s3 at *
     go_wp2
     clear F1 F2 F3 F4 F5 F6 hx2 hx3
     go_loopw [16] (fun c wr=>∃ (i:Nat) (ls:List UInt8),i≤n3∧c=.int .i64 i∧Hid (ls.length=n3∧True)∧Hid (St w w.heap.size wr [(g5,ls.map B++tl5,5),(g4,y.map B++tl4,5),(yb,yf alg (some ⟨g1,0,none⟩) n1 ck at' n2 ct a3 n3 c3 back,24),(gm,b3.map B++tlm,5),(g1,xs.map B++tl1,5),(w.heap.size,yf alg a1 n1 c1 a2 n2 c2 a3 n3 c3 back,24)])∧Hid (zI g5 w11 wr)) (fun c _=>n3 - (intOf c).toNat)
     case atStart=>exact ⟨0,y,by omega,rfl,⟨HY.znr.2,trivial⟩,HS,zI.refl _ _⟩
     case round =>
      clear HS
      obtain ⟨i,ls,hi,rfl,HLL,HS,HO⟩:=hrel
      by_cases hlt:i < n3
      ·obtain ⟨x,hx⟩:∃ x,ls[i]? = some x:=⟨ls[i]'(by rw [HLL.znr.1];exact hlt),by simp⟩
       have hc:=(HS.znr.get 0 rfl).cell i (B x) (by rw [List.getElem?_append_left (by rw [List.length_map,HLL.znr.1];exact hlt)];exact zU hx)
       have HLN:=znq (show (ls.set i (ya x 255)).length=n3∧True from ⟨by rw [List.length_set];exact HLL.znr.1,trivial⟩)
       have HSE:=znq (show (ls.map B++tl5).set i (B (ya x 255))=(ls.set i (ya x 255)).map B++tl5∧True from ⟨by rw [List.set_append_left _ _ (by rw [List.length_map,HLL.znr.1];exact hlt),ym],trivial⟩)
       have hfit:i < (ls.map B++tl5).length:=by rw [List.length_append,List.length_map,HLL.znr.1];omega
       clear hx
       go_wp2_with (refine (HS.znr.get 0 rfl).wset (i:=i) (v:=B (ya x 255)) rfl rfl rfl rfl zl rfl rfl hfit ?_)
       intro w' hb' ho'
       rw [HSE.znr.1] at hb'
       have HS:=znq (HS.znr.change 0 hb' ho' (by omega) (by simp;omega))
       have HO:=znq (HO.znr.trans (zI.of_only ho'))
       clear hb' ho' hc
       go_wp2
       go_roundw
       case rel=>exact ⟨i+1,_,by omega,by go_num,HLN,HS,HO⟩
       case measure=>simp [intOf];omega
      ·obtain rfl:n3=i:=by omega
       clear hlt hi
       have HC2:=znq (HC2.znr.onlyB HO.znr (by omega))
       have HTW:=znq (HTW.znr.onlyB HO.znr (by omega))
       clear HO HLL
       have hx4:=(HS.znr.get 5 rfl).cell 4 _ rfl
       go_wp2_with (refine (HS.znr.get 2 rfl).wload rfl rfl rfl zx rfl ?_)
       refine (q8 alg (some ⟨g1,0,none⟩) n1 ck at' n2 ct a3 n3 c3 back cp2 k b2 (some ⟨gm,0,none⟩) n3 cm b3 back _ HC2.znr.self HB2.znr (by omega) hct HTW.znr.self HB3.znr HK.znr.2.2 (by omega) hcm (ZY (HS.znr.get 3 rfl))).mono ?_
       rintro e w12 ⟨v6,rfl,hown,hbel⟩
       rw [HY.znr.1] at hown
       obtain ⟨a6,c6,rfl,hc6,_,hl6⟩:=zw hown
       have HL6:=znq hl6
       have HS:=znq (HS.znr.later hbel)
       clear hown hl6 hbel hx4
       have hx3:=(HS.znr.get 5 rfl).cell 3 _ rfl
       have F1:=yL w12 a6 n3 c6 y HY.znr.2 HL6.znr
       have F2:=yL w12 (some ⟨g4,0,none⟩) n3 c4 y HY.znr.2 (ZY (HS.znr.get 1 rfl))
       have F5:=yL w12 (some ⟨gm,0,none⟩) n3 cm b3 HB3.znr (ZY (HS.znr.get 3 rfl))
       have F6:=yL w12 a3 n3 c3 b3 HB3.znr (HL3.znr.below HS.znr.bel)
       generalize str y=s1 at *
       generalize str b3=s3 at *
       go_wp2_with fail
       refine (qc _ (HG.znr.below HS.znr.bel) (HBG.znr.below HS.znr.bel)).mono ?_
       rintro e w13 ⟨rfl,hbel⟩
       have HS:=znq (HS.znr.later hbel)
       clear hbel F1 F2 F5 F6 hx3
       go_wp2
       go_ret
       exact ⟨rfl,HS.znr.bel⟩
 ·have HM:=znq (show Y2 alg n1 n2 n3=false∧True from ⟨by simpa using hm,trivial⟩)
  clear hm
  go_enter Tryz.func5,Tryz.ntmps5
  go_wp2_with (refine zh 24 _ (yf alg a1 n1 c1 a2 n2 c2 a3 n3 c3 back) _ rfl rfl rfl rfl ?_)
  intro w1 hb hbel;have HS:=znq (HS.znr.push hb hbel);clear hb hbel
  go_wp2_with (refine (HS.znr.get 0 rfl).wload rfl rfl rfl zx rfl ?_)
  refine (wh alg a1 n1 c1 a2 n2 c2 a3 n3 c3 back _).mono ?_
  rintro e w2 ⟨rfl,hbel⟩
  rw [HM.znr.1]
  have HS:=znq (HS.znr.later hbel)
  clear hbel
  go_wp2
  go_ret
  exact ⟨rfl,HS.znr.bel⟩
end Go.Proofs.YtbpghohkhngdfaaGreatDoor

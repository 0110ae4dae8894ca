/-
  Texts of this claim, one behind the other.
-/
import Derived.Test.YtjaioajjfiaheaaGreatDoorR1
import Derived.Test.YtjaioajjfiaheaaGreatDoorR26
import Derived.Lib.Hide
set_option linter.unusedVariables false
set_option linter.unusedSimpArgs false
set_option maxHeartbeats 16000000
set_option maxRecDepth 100000
namespace Go.Proofs.YtjaioajjfiaheaaGreatDoor
open Go.RowKit Go.Mem Go.Ops Go.Cells Go.Oct Go.Gf Go.Trn Go.Aes Go.Ring Go.Ezk Go.Ezh Go.Ezt Go.Ezc Go.Aez Go.Blake Go.CutP Go.Fl Go.Adi Go.Hct Go.Wid
attribute [local irreducible] zE zN zO zM yu
theorem _root_.Go.Cells.St.other' {w0 w w':World} {base b:Nat} {L:List (Nat×List Value×TypeId)} (h:St w0 base w L) (ho:Only b w w') (hb:base≤b) (hne:∀ e∈L,e.1≠b):St w0 base w' L :=
 ⟨h.base_le,zk h.bel ho hb,fun e he=>(h.all e he).only ho (hne e he)⟩
theorem zqo (alg:Int) (a1:Option Addr) (n1 c1:Nat) (b1:List UInt8) (a2:Option Addr) (n2 c2:Nat) (b2:List UInt8) (t:Int) (a4:Option Addr) (N c4:Nat) (ss:List Str) (a5:Option Addr) (n5 c5:Nat) (b5:List UInt8) (at8' by8:UInt8) (w:World)
  (hb1:b1.length=n1) (hc1:n1≤c1) (hl1:zr w a1 (b1.map B)) (hb2:b2.length=n2) (hc2:n2≤c2) (hl2:zr w a2 (b2.map B)) (hN:ss.length=N) (hNm:N≤maxLen) (hs:xY w a4 ss) (hb5:b5.length=n5) (hc5:n5≤c5) (hm5:c5≤maxLen) (hl5:zr w a5 (b5.map B)) (hg:Globals w) (hbg:qD w) :
  Calls Tryz.prog 5 #[.agg (znt alg a1 n1 c1 a2 n2 c2 t a4 N c4 a5 n5 c5).toArray,B at8',B by8] w fun e w'=>e=.returned (.bool true)∧Below w.heap.size w w':=by
 have HS:=znq (St.start w)
 have HNN:=znq hN
 have HSS:=znq hs
 have HSL:=znq hs.lies
 have HNM:=znq hNm
 clear hN hs hNm
 by_cases hr:zn0 alg n1 n2 N n5 ss=true
 rotate_left
 ·have HR:=znq (show zn0 alg n1 n2 N n5 ss=false∧True from ⟨by simpa using hr,trivial⟩)
  clear hr
  go_enter Tryz.func5,Tryz.ntmps5
  go_wp2_with (refine zh 25 _ (znt alg a1 n1 c1 a2 n2 c2 t a4 N c4 a5 n5 c5) _ rfl rfl rfl rfl ?_)
  intro w1 hb hbel;have HS:=znq (HS.znr.push hb hbel);clear hb hbel
  go_wp2_with (refine (HS.znr.get 0 rfl).wload rfl rfl rfl yb rfl ?_)
  refine (znu alg a1 n1 c1 a2 n2 c2 t a4 N c4 a5 n5 c5 ss _ HNN.znr HNM.znr (HSL.znr.below HS.znr.bel)).mono ?_
  rintro e w2 ⟨rfl,hbel⟩
  rw [HR.znr.1]
  have HS:=znq (HS.znr.later hbel)
  clear hbel
  go_wp2
  go_ret
  exact ⟨rfl,HS.znr.bel⟩
 have HR:=znq (show zn0 alg n1 n2 N n5 ss=true∧True from ⟨hr,trivial⟩)
 obtain ⟨_,hn1,hw,hn2,hn6,hn5⟩:=of_decide_eq_true hr
 clear hr
 by_cases ht:0≤t∧t≤16
 rotate_left
 ·have HT:=znq (show decide (0≤t∧t≤16)=false∧True from ⟨decide_eq_false ht,trivial⟩)
  clear ht hw
  go_enter Tryz.func5,Tryz.ntmps5
  go_wp2_with (refine zh 25 _ (znt alg a1 n1 c1 a2 n2 c2 t a4 N c4 a5 n5 c5) _ rfl rfl rfl rfl ?_)
  intro w1 hb hbel;have HS:=znq (HS.znr.push hb hbel);clear hb hbel
  go_wp2_with (refine (HS.znr.get 0 rfl).wload rfl rfl rfl yb rfl ?_)
  refine (znu alg a1 n1 c1 a2 n2 c2 t a4 N c4 a5 n5 c5 ss _ HNN.znr HNM.znr (HSL.znr.below HS.znr.bel)).mono ?_
  rintro e w2 ⟨rfl,hbel⟩
  rw [HR.znr.1]
  have HS:=znq (HS.znr.later hbel)
  clear hbel
  have hx3:=(HS.znr.get 0 rfl).cell 3 _ rfl
  go_wp2_with fail
  refine (znx t _).mono ?_
  rintro e w3 ⟨rfl,rfl⟩
  rw [HT.znr.1]
  go_wp2
  go_ret
  exact ⟨rfl,HS.znr.bel⟩
 have HT:=znq (show decide (0≤t∧t≤16)=true∧True from ⟨decide_eq_true ht,trivial⟩)
 obtain ⟨tn,rfl⟩:∃ tn:Nat,t=(tn:Int):=⟨t.toNat,by omega⟩
 have htn:tn≤16:=by omega
 clear ht
 by_cases h3:alg=3
 rotate_left
 ·have d1:(alg != 3)=true:=by simp;omega
  clear hw h3
  go_enter Tryz.func5,Tryz.ntmps5
  go_wp2_with (refine zh 25 _ (znt alg a1 n1 c1 a2 n2 c2 tn a4 N c4 a5 n5 c5) _ rfl rfl rfl rfl ?_)
  intro w1 hb hbel;have HS:=znq (HS.znr.push hb hbel);clear hb hbel
  go_wp2_with (refine (HS.znr.get 0 rfl).wload rfl rfl rfl yb rfl ?_)
  refine (znu alg a1 n1 c1 a2 n2 c2 tn a4 N c4 a5 n5 c5 ss _ HNN.znr HNM.znr (HSL.znr.below HS.znr.bel)).mono ?_
  rintro e w2 ⟨rfl,hbel⟩
  rw [HR.znr.1]
  have HS:=znq (HS.znr.later hbel)
  clear hbel
  have hx0:=(HS.znr.get 0 rfl).cell 0 _ rfl
  have hx3:=(HS.znr.get 0 rfl).cell 3 _ rfl
  go_wp2_with fail
  refine (znx tn _).mono ?_
  rintro e w3 ⟨rfl,rfl⟩
  rw [HT.znr.1]
  go_wp2
  go_ret
  exact ⟨rfl,HS.znr.bel⟩
 obtain ⟨k,hk⟩:∃ k,k=ko b1:=⟨_,rfl⟩
 have HK:=znq (show jy alg b1=.aez k∧(ku.aez k).Fit∧(ku.aez k).room tn 0 from ⟨by rw [hk,h3];rfl,trivial,.inl rfl⟩)
 obtain ⟨s,hs⟩:∃ s,s=zn1 (.aez k) tn b2 (rowOf ss) []:=⟨_,rfl⟩
 have HY:=znq (show zn1 (.aez k) tn b2 (rowOf ss) []=s∧s.length=tn∧zoa (.aez k) tn b2 (rowOf ss) s=some []∧zog k (zns tn b2 (rowOf ss)) tn=s from ⟨hs.symm,by rw [hs,zob _ _ _ HK.znr.2.2];simp,by rw [hs];exact zol HK.znr.2.1 _ _ _ HK.znr.2.2,by rw [hs];show _=zn6 _ _ _ _;unfold zn6;rw [if_pos rfl]⟩)
 have HW:=znq hw
 have HB1:=znq hb1
 have HL1:=znq hl1
 have HB2:=znq hb2
 have HL2:=znq hl2
 have HG:=znq hg
 have HBG:=znq hbg
 have d1:(alg != 3)=false:=by simp;omega
 clear h3 hw hb1 hl1 hb2 hl2 hb5 hl5 hg hbg hk hs
 go_enter Tryz.func5,Tryz.ntmps5
 go_wp2_with (refine zh 25 _ (znt alg a1 n1 c1 a2 n2 c2 tn a4 N c4 a5 n5 c5) _ rfl rfl rfl rfl ?_)
 intro w1 hb hbel;have HS:=znq (HS.znr.push hb hbel);clear hb hbel
 go_wp2_with (refine (HS.znr.get 0 rfl).wload rfl rfl rfl yb rfl ?_)
 refine (znu alg a1 n1 c1 a2 n2 c2 tn a4 N c4 a5 n5 c5 ss _ HNN.znr HNM.znr (HSL.znr.below HS.znr.bel)).mono ?_
 rintro e w2 ⟨rfl,hbel⟩
 rw [HR.znr.1]
 have HS:=znq (HS.znr.later hbel)
 clear hbel
 have hx0:=(HS.znr.get 0 rfl).cell 0 _ rfl
 have hx3:=(HS.znr.get 0 rfl).cell 3 _ rfl
 go_wp2_with fail
 refine (znx tn _).mono ?_
 rintro e w3 ⟨rfl,rfl⟩
 rw [HT.znr.1]
 go_wp2_with (refine (HS.znr.get 0 rfl).wload rfl rfl rfl yb rfl ?_)
 refine (zn4 alg a1 n1 c1 b1 a2 n2 c2 tn a4 N c4 a5 n5 c5 _ HB1.znr HW.znr hc1 (HL1.znr.below HS.znr.bel) (HG.znr.below HS.znr.bel) (HBG.znr.below HS.znr.bel)).mono ?_
 rintro e w3 ⟨cp,rfl,hst,hbel⟩
 rw [HK.znr.1] at hst
 have HS:=znq (HS.znr.later hbel)
 have HC:=znq (zpy (c4:=c4) HR.znr.1 htn hst.self HB2.znr hc2 (HL2.znr.below HS.znr.bel) HNN.znr (HSS.znr.below HS.znr.bel))
 clear hst hbel hx0 hx3
 have hx2:=(HS.znr.get 0 rfl).cell 2 _ rfl
 have hx3:=(HS.znr.get 0 rfl).cell 3 _ rfl
 have hx4:=(HS.znr.get 0 rfl).cell 4 _ rfl
 go_wp2_with fail
 refine (zoh tn a2 n2 c2 b2 a4 N c4 ss _ htn HC.znr.nlen (by omega) HC.znr.nlies HC.znr.alen (by omega) HC.znr.strs HC.znr.lens).mono ?_
 rintro e w4 ⟨g,cap,sts,rfl,hl2,hro,hss,hbel⟩
 have HST:=znq hss
 have HRO:=znq (show rowOf sts=zns tn b2 (rowOf ss)∧sts.length=2+N from ⟨hro,hl2⟩)
 have HC:=znq (HC.znr.later hbel)
 have HS:=znq (HS.znr.later hbel)
 have HZW:=znq (HS.znr.get 0 rfl).lt
 clear hl2 hro hss hbel hx2 hx3 hx4
 go_wp2_with (refine (HS.znr.get 0 rfl).wload rfl rfl rfl yb rfl ?_)
 refine (zoe alg a1 n1 c1 a5 n5 c5 none 0 0 [] _ HC.znr rfl (by omega) (by omega) (zr.nil _ _) HK.znr.2.2).mono ?_
 rintro e w5 ⟨v5,rfl,hown,hbel⟩
 rw [HY.znr.1] at hown
 rw [Nat.zero_add] at hown
 have HBX:=znq hbel
 have HO:=znq hown
 have HST:=znq (HST.znr.below hbel)
 have HS:=znq (HS.znr.later hbel)
 obtain ⟨ao5,cp5,rfl,hc5',_,_⟩:=zw hown
 clear hown hbel
 have hx3:=(HS.znr.get 0 rfl).cell 3 _ rfl
 go_wp2_with fail
 refine (zqb cp k (some ⟨g,0,none⟩) (2+N) cap tn sts _ (HC.znr.ciph.later HBX.znr) HRO.znr.2 (by omega) HST.znr (by
  intro s hs
  have h:s.bs∈rowOf sts:=List.mem_map.2 ⟨s,hs,rfl⟩
  rw [HRO.znr.1] at h
  unfold zns at h
  rcases List.mem_cons.1 h with h | h
  ·rw [h];simp [zf]
  ·rcases List.mem_cons.1 h with h | h
   ·rw [h,HC.znr.nlen];omega
   ·obtain ⟨s',hs',e⟩:=List.mem_map.1 h
    rw [← e];exact HC.znr.lens s' hs') (by omega)).mono ?_
 rintro e w6 ⟨v6,rfl,hown,hbel⟩
 rw [HRO.znr.1,HY.znr.2.2.2] at hown
 obtain ⟨ao6,cp6,rfl,hc6',_,hl6⟩:=zw hown
 have HL6:=znq hl6
 have HO:=znq (zm HO.znr hbel)
 have hz5:=HBX.znr.size
 have HBX:=znq (HBX.znr.trans (hbel.mono hz5))
 have HS:=znq (HS.znr.later hbel)
 clear hown hl6 hbel hx3 HST
 go_wp2_with (refine (HS.znr.get 0 rfl).wload rfl rfl rfl yb rfl ?_)
 refine (zon alg a1 n1 c1 a5 n5 c5 ao5 tn cp5 s _ (HC.znr.later HBX.znr) HY.znr.2.1 (by omega) hc5' (zr.of_own HO.znr)).mono ?_
 rintro e w7 ⟨ho,hbel⟩
 rw [HY.znr.2.2.1] at ho
 obtain ⟨ao7,rfl,_,_⟩:=ho
 have HO:=znq (zm HO.znr hbel)
 have HL6:=znq (HL6.znr.below hbel)
 have hz6:=HBX.znr.size
 have HBX:=znq (HBX.znr.trans (hbel.mono hz6))
 have HS:=znq (HS.znr.later hbel)
 clear hbel
 have hx3:=(HS.znr.get 0 rfl).cell 3 _ rfl
 have F1:=yL w7 ao5 tn cp5 s HY.znr.2.1 (zr.of_own HO.znr)
 have F2:=yL w7 ao6 tn cp6 s HY.znr.2.1 HL6.znr
 generalize str s=s1 at *
 by_cases h0:tn=0∨by8=0
 ·have hd:((tn:Int)==0)=true∨(((tn:Int)==0)=false∧((by8.toNat:Int)==0)=true):=by
   by_cases ht0:tn=0
   ·exact .inl (by simp;omega)
   ·refine .inr ⟨by simp;omega,?_⟩
    rw [h0.resolve_left ht0]
    rfl
  clear h0
  rcases hd with d2 | ⟨d2,d3⟩
  all_goals (
   go_wp2_with fail
   refine (zn3 _ (HG.znr.below HS.znr.bel) (HBG.znr.below HS.znr.bel)).mono ?_
   rintro e w9 ⟨rfl,hbel⟩
   have HS:=znq (HS.znr.later hbel)
   clear hbel F1 F2 hx3
   go_wp2
   go_ret
   exact ⟨rfl,HS.znr.bel⟩)
 have d2:((tn:Int)==0)=false:=by simp;omega
 have hby:by8.toNat≠0:=fun e=>h0 (.inr (UInt8.toNat_inj.1 e))
 have d3:((by8.toNat:Int)==0)=false:=by simp;omega
 have htp:0 < tn:=by omega
 obtain ⟨j,hj⟩:∃ j,j=at8'.toNat % tn:=⟨_,rfl⟩
 have hjt:j < tn:=by rw [hj];exact Nat.mod_lt _ htp
 have hq:(at8'.toNat:Int).tmod (tn:Int)=(j:Int):=by rw [hj];rfl
 have h256:=at8'.toNat_lt
 obtain ⟨x,hx⟩:∃ x,s[j]? = some x:=⟨s[j]'(by rw [HY.znr.2.1];exact hjt),by simp⟩
 obtain ⟨ga,_,tl,e1,hbk,hge,_⟩:=YK HO.znr htp
 cases e1
 have hc:=hbk.cell j (B x) (by rw [List.getElem?_append_left (by rw [List.length_map,HY.znr.2.1];exact hjt)];exact zU hx)
 have HNX:=znq (show (s.map B++tl).set j (B (ya x by8))=(s.set j (ya x by8)).map B++tl∧(s.set j (ya x by8)).length=tn∧s.set j (ya x by8)≠s from ⟨by rw [List.set_append_left _ _ (by rw [List.length_map,HY.znr.2.1];exact hjt),ym],by rw [List.length_set];exact HY.znr.2.1,by
  intro e
  have h1:=congrArg (fun l=>l[j]?) e
  simp only [List.getElem?_set,if_pos rfl,if_pos (show j < s.length by rw [HY.znr.2.1];exact hjt)] at h1
  rw [hx] at h1
  have h2:=Option.some.inj h1
  apply hby
  have h3:ya (ya x by8) x=0:=(xor8_zero _ _).2 h2
  have:by8=0:=by
   unfold ya at h3
   have h4:x ^^^ by8 ^^^ x=by8:=by rw [UInt8.xor_comm x by8,UInt8.xor_assoc,UInt8.xor_self,UInt8.xor_zero]
   rw [h4] at h3
   exact h3
  rw [this];rfl⟩)
 have hfit:j < (s.map B++tl).length:=by rw [List.length_append,List.length_map,HY.znr.2.1];omega
 have HBK:=znq hbk
 have hgl:=hbk.lt
 have hz4:=HBX.znr.size
 have hbe:=(HS.znr.get 0 rfl).lt
 have hne:w.heap.size≠ga:=by have:=HZW.znr;omega
 clear hj hx hbk h0 F1 F2 hx3
 have hx3:=(HS.znr.get 0 rfl).cell 3 _ rfl
 have F1:=yL w7 (some ⟨ga,0,none⟩) tn cp5 s HY.znr.2.1 (ZY HBK.znr)
 have F2:=yL w7 ao6 tn cp6 s HY.znr.2.1 HL6.znr
 generalize str s=s1 at *
 go_wp2_with (refine HBK.znr.wset (i:=j) (v:=B (ya x by8)) rfl rfl rfl rfl zl rfl rfl hfit ?_)
 intro w8 hb8 ho8
 rw [HNX.znr.1] at hb8
 have HB8:=znq hb8
 have HBX:=znq (zk HBX.znr ho8 hge)
 have HS:=znq (show St w w.heap.size w8 [(w.heap.size,znt alg a1 n1 c1 a2 n2 c2 tn a4 N c4 a5 n5 c5,25)] from HS.znr.other' ho8 (by have:=HZW.znr;omega) (by simp;omega))
 clear hb8 ho8 F1 F2 hx3 hc
 go_wp2_with (refine (HS.znr.get 0 rfl).wload rfl rfl rfl yb rfl ?_)
 refine (zon alg a1 n1 c1 a5 n5 c5 (some ⟨ga,0,none⟩) tn cp5 (s.set j (ya x by8)) _ (HC.znr.later HBX.znr) HNX.znr.2.1 (by omega) hc5' (ZY HB8.znr)).mono ?_
 rintro e w9 ⟨ho,hbel⟩
 have hon:zoa (.aez k) tn b2 (rowOf ss) (s.set j (ya x by8))=none:=by
  show zn9 k _ tn _=none
  unfold zn9
  rw [HNX.znr.2.1,if_neg (by omega),if_pos rfl,HY.znr.2.2.2,if_neg HNX.znr.2.2]
 rw [hon] at ho
 obtain rfl:=ho
 have HS:=znq (HS.znr.later hbel)
 clear hbel hon
 go_wp2_with fail
 refine (zn3 _ (HG.znr.below HS.znr.bel) (HBG.znr.below HS.znr.bel)).mono ?_
 rintro e w10 ⟨rfl,hbel⟩
 have HS:=znq (HS.znr.later hbel)
 clear hbel
 go_wp2
 go_ret
 exact ⟨rfl,HS.znr.bel⟩
end Go.Proofs.YtjaioajjfiaheaaGreatDoor

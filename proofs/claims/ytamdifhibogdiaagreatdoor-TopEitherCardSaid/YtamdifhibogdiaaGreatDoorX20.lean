/-
  Texts of this claim, one behind the other.
-/
import Derived.Test.YtamdifhibogdiaaGreatDoorX1
import Derived.Test.YtamdifhibogdiaaGreatDoorX19
import Derived.Test.YtamdifhibogdiaaGreatDoorX9
import Derived.Test.YtamdifhibogdiaaGreatDoorX11
import Derived.Test.YtamdifhibogdiaaGreatDoorX13
import Derived.Test.YtamdifhibogdiaaGreatDoorX8
import Derived.Test.YtamdifhibogdiaaGreatDoorX16
import Derived.Lib.Hide
set_option linter.unusedVariables false
set_option linter.unusedSimpArgs false
set_option maxHeartbeats 16000000
set_option maxRecDepth 100000
open List renaming append_assoc→QA,append_nil→bC,drop_append→bK,drop_append_of_le_length→bP,drop_eq_nil_of_le→Yx,drop_zero→bL,getElem?_append_right→bM,length_append→q8,length_drop→XQ,length_map→yf,length_take→Ku,map_take→bN,mem_of_getElem?→xU,nil_append→uo,replicate→wh,set_append_right→dD,take_append→gz,take_append_of_le_length→uD,take_length→lX,take_of_length_le→Y2,take_zero→cO
open Nat renaming add_zero→gG,le_refl→xc,min_eq_left→cz,mod_lt→ma,zero_add→bH
open UInt64 renaming ofNat→wF
namespace Go.Cha
open Ops Oct Trn
theorem zdg (a b:List UInt8) (h:b.length≤a.length):splice a 0 b=b++a.drop b.length:=by
 unfold splice
 rw [cO,uo,bH]
theorem zfe (a b:List UInt8) (ha:a.length=16) (hb:b.length=8):splice a 8 b=a.take 8++b:=by
 unfold splice
 rw [Yx (by omega),bC]
theorem zau {key ng:List UInt8} {r many:Nat} {b:List UInt8} (h:b.length≠0):xa key ng r many b=nX b (kr key ng r many)++xa key ng r (many+1) (b.drop 64):=by
 conv=>lhs;unfold xa
 rw [dif_neg h]
end Go.Cha
namespace Go.Proofs.YtamdifhibogdiaaGreatDoor
open RowKit Mem Ops Cells Oct Trn Cha
attribute [local irreducible] zE zN zO zM yJ qM qj
theorem VO (w:World) (a:Option Addr) (n c:Nat) (h:16≤n):(Instr.arrayAt 59 (.slice a n c)).run Tryz.prog w=.ok (.pointer a) w:=by
 simp [Instr.arrayAt,run_underlying Tryz.underlying59,show ¬ n < 16 by omega]
theorem zdh:Row Tryz.prog 66 24:=⟨by kernel_rfl,by kernel_rfl⟩
abbrev Vf (r:Nat) (sl:Value) (bo bi:Nat) (v:Value) (u:UInt64) (us:Nat→Value):Act:={ tmps:=#[us 0,us 1,.int .i64 r,sl,us 4,us 5,us 6,us 7,us 8,us 9,.pointer (some ⟨bo,0,none⟩),us 11,.pointer (some ⟨bi,0,none⟩),v,L u,us 15,us 16,us 17,us 18,us 19,us 20,us 21,us 22,us 23,us 24,us 25,us 26,us 27,us 28,us 29,us 30,us 31,us 32,us 33,us 34,us 35,us 36,us 37,us 38,us 39,us 40,us 41,us 42,us 43,us 44,us 45,us 46,us 47,us 48,us 49,us 50,us 51,us 52,us 53,us 54,us 55,us 56,us 57,us 58,us 59,us 60,us 61,us 62,us 63,us 64],defers:=[] }
def Qw (key ng b:List UInt8) (r bb:Nat) (w:World) (x:Act) (wr:World):Prop :=
 ∃ (bz bo bi:Nat) (us:Nat→Value) (ao:Option Addr) (n c:Nat) (rest:List UInt8) (v:Value) (k:Nat) (outs inn:List UInt8) (many:Nat) (u:UInt64),x=Vf r (.slice ao n c) bo bi v u us∧bb≤bo∧bb≤bi∧bo < bz∧bi < bz∧bo≠bi∧n≤c∧k+n=b.length∧Hid (rest.length=n)∧Hid (zr w ao (rest.map B))∧Hid (u=wF many∧True) ∧
  Hid (inn.length=16∧inn.drop 8=ng.drop 16)∧Hid (outs.length=k∧outs++xa key ng r many rest=jT key ng r b)∧Hid (wr.ownsRow bz 5 1 v k (outs.map B)) ∧
  Hid (St w bb wr [(bi,inn.map B,59),(bo,(jw key (ng.take 16) r).map B,255)])∧bz≤wr.heap.size
theorem Qw.intro {key ng b:List UInt8} {r bb:Nat} {w:World} {x:Act} {wr:World} (bz bo bi:Nat) (ao:Option Addr) (n c:Nat) (rest:List UInt8) (v:Value) (k:Nat) (outs inn:List UInt8) (many:Nat) (u:UInt64)
  (hx:x=Vf r (.slice ao n c) bo bi v u (fun i=>x.tmps.getD i undef)) (g1:bb≤bo) (g2:bb≤bi) (g3:bo < bz) (g4:bi < bz) (g5:bo≠bi) (h1:n≤c) (h2:k+n=b.length) (h3:rest.length=n) (h4:zr w ao (rest.map B)) (h5:u=wF many) (h6:inn.length=16∧inn.drop 8=ng.drop 16) (h7:outs.length=k∧outs++xa key ng r many rest=jT key ng r b)
  (h8:wr.ownsRow bz 5 1 v k (outs.map B)) (h9:St w bb wr [(bi,inn.map B,59),(bo,(jw key (ng.take 16) r).map B,255)]) (h10:bz≤wr.heap.size):Qw key ng b r bb w x wr :=
 ⟨bz,bo,bi,_,ao,n,c,rest,v,k,outs,inn,many,u,hx,g1,g2,g3,g4,g5,h1,h2,h3,h4,⟨h5,trivial⟩,h6,h7,h8,h9,h10⟩
theorem zdi (key ng:List UInt8) (r:Nat) (ao:Option Addr) (n cap:Nat) (b:List UInt8) (w:World) (hk:key.length=32) (hnn:ng.length=24) (hr:YX r) (hb:b.length=n) (hc:n≤cap) (hn:n≤1000000) (hl:zr w ao (b.map B)) :
  Calls Tryz.prog 168 #[.agg (key.map B).toArray,.agg (ng.map B).toArray,.int .i64 r,.slice ao n cap] w fun e w'=>∃ v,e=.returned (.tuple #[v,.int .i64 0])∧w'.ownsRow w.heap.size 5 1 v n ((jT key ng r b).map B)∧Below w.heap.size w w':=by
 obtain ⟨i0,hi0,hz0,hz1,hz2⟩:=info_parts yq
 have HI:=znq (And.intro hi0 (And.intro hz0 (And.intro hz1 hz2)))
 have HK:=znq (show key.length=32∧True from ⟨hk,trivial⟩)
 have HKV:=znq (show (key.map B).length=32 by rw [yf];exact hk)
 have HNN:=znq (show ng.length=24∧True from ⟨hnn,trivial⟩)
 obtain ⟨t16,zec⟩:∃ t,t=ng.take 16:=⟨_,rfl⟩
 have HT:=znq (show t16=ng.take 16∧t16.length=16 from ⟨zec,by rw [zec,Ku];omega⟩)
 have HT16:=znq (show (t16.map B).length=16 by rw [yf,HT.znr.2])
 have HD8:=znq (show (ng.drop 16).length=8 by rw [XQ];omega)
 have HTK:=znq (show ((ng.map B).drop 0).take 16=t16.map B by rw [bL,zec,bN])
 have HDK:=znq (show ((ng.map B).drop 16).take ((ng.drop 16).map B).length=(ng.drop 16).map B by rw [← List.map_drop,lX])
 have HR:=znq hr
 have HB:=znq hb
 have HL:=znq hl
 have HS:=znq (St.start w)
 clear hk hnn hr hb hl hi0 hz0 hz1 hz2 zec
 go_enter Tryz.func168,Tryz.ntmps168
 go_wp2_with (refine zh 255 _ (key.map B) _ rfl rfl rfl rfl ?_)
 intro w1 hb hbel;have HS:=znq (HS.znr.push hb hbel);have hlt1:=hb.lt;clear hb hbel
 go_wp2_with (refine zh 66 _ (ng.map B) _ rfl rfl rfl rfl ?_)
 intro w2 hb hbel;have HS:=znq (HS.znr.push hb hbel);have hlt2:=hb.lt;clear hb hbel
 have g0:w.heap.size < w2.heap.size:=HS.znr.ne _ (xU (i:=1) rfl)
 have g1:w1.heap.size < w2.heap.size:=HS.znr.ne _ (xU (i:=0) rfl)
 generalize hbb:w.heap.size=bb at *
 generalize w1.heap.size=b1 at *
 have HBB:=znq hbb
 clear hbb
 go_wp2_with fail
 refine yd 0 (Qw key ng b r bb w) (fun x _=>X9 (x.tmps.getD 3 undef)) rfl ?_ ?_
 ·simp only [q9]
  have hs1:=fun (w':World)=>qN (P:=Tryz.prog) w' 66 5 24 Tryz.underlying66 zl b1 0 16 16 rfl (by omega) (by omega)
  have hs2:=fun (w':World)=>VO w' (some ⟨b1,0,none⟩) 16 24 (by omega)
  go_wp2_with fail
  refine Kk zW [10] [0,1,4,2,3] 7 zW.refl (fun _ _ _ h1 h2=>h1.trans h2) (by kernel_rfl) (by kernel_rfl) ?_
  rintro w3 rfl
  have HS:=znq HS.znr.drew
  refine Kw (HS.znr.get 1 rfl).range (HS.znr.get 1 rfl).lt yP HKV.znr rfl rfl rfl rfl (fun K hK=>?_)
  go_simp;refine hK _ ?_;clear hK K
  repeat (refine qH rfl rfl (fun K hK=>?_);go_big_quiet_step (fail);refine wpQuiet_nil (hK _ ?_);clear hK K)
  clear hs1 hs2
  refine Kw (Blk.nA (HS.znr.get 0 rfl) 0 16 _ (by exact HTK.znr)) (HS.znr.get 0 rfl).lt zc HT16.znr rfl rfl rfl rfl (fun K hK=>?_)
  go_simp;refine hK _ ?_;clear hK K
  refine vG ?_
  have HSH:=znq (show ((jw key t16 r).map B).length=32 by rw [yf,wY])
  refine zex (i:=5) (j:=9) (by kernel_rfl) rfl rfl rfl rfl (fun K hK=>?A) (fun K hK=>?B)
  case' A =>
   go_simp
   refine (WE key t16 r _ HK.znr.1 HT.znr.2 HR.znr).mono ?_
   rintro e w4 ⟨rfl,hbel⟩
   have HS:=znq (HS.znr.later hbel)
   have hz4:=hbel.size
   go_simp
   refine hK _ _ (fun _=>hbel) ?_
   clear hK K hbel
   refine Qv [(6,2),(7,2),(8,2),(9,0),(10,0),(11,2)] (by kernel_rfl) ?_
   refine mqN ?_
   refine yS rfl (by rfl) (fun K hK=>?_)
   refine Yv 255 ((zf 32).map B) _ rfl qA rfl (fun wb hbn hlb=>hK _ _ (fun _=>hlb) ?_)
   clear hK K
   have hbo:w2.heap.size≤w4.heap.size:=hz4
   have HS:=znq (HS.znr.push hbn hlb)
   generalize w4.heap.size=bo at *
  case' B =>
   refine Yv 255 ((zf 32).map B) _ rfl qA rfl (fun w4 hbn hlb=>hK _ _ (fun _=>hlb) ?_)
   clear hK K
   have hbo:w2.heap.size≤w2.drew.heap.size:=xc _
   have HS:=znq (HS.znr.push hbn hlb)
   generalize w2.drew.heap.size=bo at *
   refine Qv [(5,0),(6,2),(7,2),(8,2),(10,0),(11,2)] (by kernel_rfl) ?_
   refine yS rfl (by rfl) (fun K hK=>?_)
   go_simp
   refine (WE key t16 r _ HK.znr.1 HT.znr.2 HR.znr).mono ?_
   rintro e wb ⟨rfl,hbel⟩
   have HS:=znq (HS.znr.later hbel)
   go_simp
   refine hK _ _ (fun _=>hbel) ?_
   clear hK K hbel
   refine mqN ?_
  all_goals
   generalize w2.heap.size=b2 at *
   refine yS rfl (by rfl) (fun K hK=>?_)
   refine (HS.znr.get 0 rfl).mZ rfl rfl rfl yP (by rw [yf,zd]) HSH.znr (zg _) (fun w5 hb ho=>hK _ _ (fun h=>by cases h) ?_)
   clear hK K
   have HS:=znq (HS.znr.change 0 hb ho (by omega) (by simp;omega))
   clear hb ho
   go_simp
   refine mqN ?_
   refine jA ?_
   rw [HT.znr.1] at HS
   have g2:bo < w5.heap.size:=HS.znr.ne _ (xU (i:=0) rfl)
   have g3:b1 < w5.heap.size:=HS.znr.ne _ (xU (i:=1) rfl)
   have g4:bb < w5.heap.size:=HS.znr.ne _ (xU (i:=2) rfl)
   go_wp2_with (refine ze 59 ((zf 16).map B) _ rfl rfl zj rfl ?_)
   intro w6 hb hbel;have HS:=znq (HS.znr.push hb hbel);have zfP:=hb.lt;clear hb hbel
   generalize w5.heap.size=b5 at *
   have hs1:=fun (w':World)=>yY (P:=Tryz.prog) w' 59 5 16 Tryz.underlying59 zl b5 0 8 8 rfl (by omega)
   have hs2:=fun (w':World)=>yY (P:=Tryz.prog) w' 66 5 24 Tryz.underlying66 zl b1 0 16 16 rfl (by omega)
   go_wp2_with fail
   refine zn [0,1,2] (by kernel_rfl) (by kernel_rfl) ?_
   rintro w7 rfl
   refine mqR ?_
   clear hs1 hs2
   have HS:=znq HS.znr.drew
   refine zp rfl rfl (by rfl) (fun K hK=>?_)
   refine (HS.znr.get 0 rfl).rC 8 ((ng.drop 16).map B) rfl rfl rfl Tryz.underlying22 zl (fun _=>rfl) ((HS.znr.get 2 rfl).su 16 HDK.znr) (by rw [yf,HD8.znr];rfl) (by rw [yf,yf,HD8.znr,zd];omega) (zg _) (fun w8 hb ho=>hK _ _ ?_)
   clear hK K
   rw [xV,zfe _ _ (zd 16) HD8.znr,show (zf 16).take 8=zf 8 from rfl] at hb
   have HS:=znq (HS.znr.change 0 hb ho (by omega) (by simp;omega))
   clear hb ho
   go_simp
   refine zo ?_
   have hlt8:b5 < w8.heap.size:=HS.znr.ne _ (xU (i:=0) rfl)
   go_wp2_with (at_make;refine wpList_make_own _ rfl _ _ 22 rfl w8.heap.size 5 i0 (.int .u8 0) 1 Tryz.underlying22 HI.znr.1 HI.znr.2.1 HI.znr.2.2.1 _ _ _ n rfl rfl ?m1 ?m2 ?m3 (xc _) ?_)
   case m1=>simp
   case m2=>rw [HI.znr.2.2.2];omega
   case m3=>unfold maxLen;omega
   intro w9 hown hgrow
   have HOWN:=znq hown
   have nM:Below w8.heap.size w8 w9:=(Below.refl w8.heap.size w8).grown hgrow (xc _) (fun k h=>by cases h)
   have HS:=znq (HS.znr.later nM)
   have hz9:=nM.size
   clear hown hgrow nM
   go_wp2
   refine Qw.intro w8.heap.size bo b5 ao n cap b _ 0 [] (zf 8++ng.drop 16) 0 _ rfl (by omega) (by omega) (by omega) hlt8 (by omega) hc (by simp;exact HB.znr.symm) HB.znr HL.znr rfl ⟨by rw [q8,HD8.znr,zd],by rw [bP (by rw [zd];omega),Yx (by rw [zd];omega),uo]⟩ ⟨rfl,by rw [uo];rfl⟩ HOWN.znr (HS.znr.sub ?_) hz9
   intro e he
   simp at he
   rcases he with rfl | rfl <;> simp
 ·clear HS
  rintro x wr ⟨bz,bo,bi,us,ao,n',c,rest,v,k,outs,inn,many,u,rfl,g1,g2,g3,g4,g5,hnc,hkn,HRL,HLR,HU,HIN,zcD,HO,HS,hbz⟩
  have HSL:=znq (show (jw key (ng.take 16) r).length=32∧True from ⟨wY _ _ _,trivial⟩)
  by_cases h0:n'=0
  ·subst h0
   have HE:=znq (show outs=jT key ng r b∧k=n from ⟨by have h1:=zcD.znr.2;rw [List.eq_nil_of_length_eq_zero HRL.znr,jU,bC] at h1;exact h1,by rw [← HB.znr];omega⟩)
   rw [HE.znr.1,HE.znr.2] at HO
   go_wp2
   go_ret2
   refine ⟨_,rfl,yi HO.znr (by have:=HS.znr.nW;have:=HBB.znr;omega),?_⟩
   rw [HBB.znr]
   exact HS.znr.bel
  ·have d0:((n':Int)==0)=false:=by simp;omega
   obtain ⟨q,hq⟩:∃ q,q=min n' 64:=⟨_,rfl⟩
   have hq1:1≤q:=by omega
   have hq2:q≤n':=by omega
   have hq3:q≤64:=by omega
   have HQ:=znq (show q=min n' 64∧True from ⟨hq,trivial⟩)
   have hkb:k+n'≤1000000:=by have:=HB.znr;omega
   have HKN:=znq (show k+n'=b.length∧True from ⟨hkn,trivial⟩)
   clear hq hkn
   generalize hown:jw key (ng.take 16) r=own at *
   have HOWN:=znq (show jw key (ng.take 16) r=own∧True from ⟨hown,trivial⟩)
   clear hown
   have HOV:=znq (show (own.map B).length=32 by rw [yf];exact HSL.znr.1)
   go_wp2_with fail
   refine (kH u _).mono ?_
   rintro e w1 ⟨rfl,hbel⟩
   have HS:=znq (HS.znr.later hbel)
   have HO:=znq (zm HO.znr hbel)
   have hz1:=hbel.size
   clear hbel
   have f1:bi < w1.heap.size:=HS.znr.ne _ (xU (i:=0) rfl)
   have f2:bo < w1.heap.size:=HS.znr.ne _ (xU (i:=1) rfl)
   have HPL:=znq (show ((zz u).map B).length=8 by rw [yf,zK])
   go_wp2_with (refine ze 127 ((zf 8).map B) _ rfl rfl vJ rfl ?_)
   intro w2 hb hbel
   have HO:=znq (zm HO.znr hbel)
   have HS:=znq (HS.znr.push hb hbel);have hlt2:=hb.lt;clear hb hbel
   generalize hb8:w1.heap.size=b8 at *
   clear hb8
   have h8z:bz≤b8:=Nat.le_trans hbz hz1
   go_wp2_with (refine (HS.znr.get 0 rfl).mM rfl rfl rfl (cs:=(zz u).map B) rfl kM (by rw [yf,zd]) HPL.znr (zg _) ?_)
   intro w3 hb ho
   have HO:=znq (zu HO.znr (HS.znr.get 0 rfl) (by decide) ho)
   have HS:=znq (HS.znr.change 0 hb ho (by omega) (by simp;omega))
   have hz3:w3.heap.size=w2.heap.size:=ho.size
   clear hb ho
   have hs1:=fun (w':World)=>qN (P:=Tryz.prog) w' 59 5 16 Tryz.underlying59 zl bi 0 8 8 rfl (by omega) (by omega)
   go_wp2_with fail
   refine zn [0,1,2] (by kernel_rfl) (by kernel_rfl) ?_
   rintro w4 rfl
   refine mqR ?_
   clear hs1
   have HO:=znq (zm HO.znr (Below.refl _ _).drew)
   have HS:=znq HS.znr.drew
   have hz3:w3.drew.heap.size=w2.heap.size:=hz3
   refine zp rfl rfl (by rfl) (fun K hK=>?_)
   refine (HS.znr.get 1 rfl).rC 0 ((zz u).map B) rfl rfl rfl Tryz.underlying22 zl (fun _=>rfl) (HS.znr.get 0 rfl).lies (by rw [HPL.znr];rfl) (by rw [HPL.znr,yf,HIN.znr.1];omega) (zg _) (fun w5 hb ho=>hK _ _ ?_)
   clear hK K
   rw [xV,zdg _ _ (by rw [zK,HIN.znr.1];omega),zK,HIN.znr.2] at hb
   have HO:=znq (zu HO.znr (HS.znr.get 1 rfl) (by decide) ho)
   have HS:=znq (HS.znr.change 1 hb ho (by omega) (by simp;omega))
   have hz5:w5.heap.size=w2.heap.size:=ho.size.trans hz3
   clear hb ho
   go_simp
   refine zo ?_
   obtain ⟨zcL,zcE⟩:∃ i,i=zz u++ng.drop 16:=⟨_,rfl⟩
   have HI2:=znq (show zz u++ng.drop 16=zcL∧zcL.length=16 from ⟨zcE.symm,by rw [zcE,q8,zK,HD8.znr]⟩)
   rw [← zcE] at HS
   have HIV:=znq (show (zcL.map B).length=16 by rw [yf];exact HI2.znr.2)
   have HID:=znq (show zcL.drop 8=ng.drop 16 from by rw [zcE,bP (by rw [zK];omega),Yx (by rw [zK];omega),uo])
   clear zcE
   go_wp2_with (first | (refine (HS.znr.get 2 rfl).mP rfl rfl rfl yP HOV.znr ?_) | (refine (HS.znr.get 1 rfl).mP rfl rfl rfl zc HIV.znr ?_))
   refine (zhw own zcL r _ HSL.znr.1 HI2.znr.2 HR.znr).mono ?_
   rintro e w6 ⟨rfl,hbel⟩
   have HO:=znq (zm HO.znr hbel)
   have HS:=znq (HS.znr.later hbel)
   have hz6:=hbel.size
   clear hbel
   obtain ⟨blk,hblk⟩:∃ x,x=wW own zcL r:=⟨_,rfl⟩
   have HBK:=znq (show wW own zcL r=blk∧blk.length=64 from ⟨hblk.symm,by rw [hblk];exact wX _ _ _⟩)
   have HBV:=znq (show (blk.map B).length=64 by rw [yf];exact HBK.znr.2)
   have HST:=znq (show blk=kr key ng r many from by
    unfold kr
    rw [hblk,HOWN.znr.1,← HU.znr.1,HI2.znr.1])
   rw [← hblk]
   clear hblk
   have f3:b8 < w6.heap.size:=HS.znr.ne _ (xU (i:=0) rfl)
   have f4:bi < w6.heap.size:=HS.znr.ne _ (xU (i:=1) rfl)
   have f5:bo < w6.heap.size:=HS.znr.ne _ (xU (i:=2) rfl)
   go_wp2_with (refine ze 287 ((zf 64).map B) _ rfl rfl ZU rfl ?_)
   intro w7 hb hbel
   have HO:=znq (zm HO.znr hbel)
   have HS:=znq (HS.znr.push hb hbel);have zcQ:=hb.lt;clear hb hbel
   generalize hb6:w6.heap.size=b6 at *
   clear hb6
   go_wp2_with (refine (HS.znr.get 0 rfl).mM rfl rfl rfl (cs:=blk.map B) rfl wI (by rw [yf,zd]) HBV.znr (zg _) ?_)
   intro w8 hb ho
   have HO:=znq (zu HO.znr (HS.znr.get 0 rfl) (by decide) ho)
   have HS:=znq (HS.znr.change 0 hb ho (by omega) (by simp;omega))
   have hz8:w8.heap.size=w7.heap.size:=ho.size
   clear hb ho
   go_wp2_with fail
   refine (j1 ao (some ⟨b6,0,none⟩) n' 64 c 64 rest blk _ HRL.znr HBK.znr.2 (by omega) (by omega) (HLR.znr.below (by rw [HBB.znr];exact HS.znr.bel)) (HS.znr.get 0 rfl).lies).mono ?_
   rintro e w9 ⟨v9,rfl,hown,hbel⟩
   obtain ⟨a9,c9,rfl,_,_,hl⟩:=zw hown
   have HO:=znq (zm HO.znr hbel)
   have HS:=znq (HS.znr.later hbel)
   have HL9:=znq hl
   have hz9:=hbel.size
   clear hown hl hbel
   simp only [id]
   rw [← HQ.znr.1]
   have HXL:=znq (show (nX rest blk).length=q by rw [Oct.mW,HRL.znr,HBK.znr.2];exact HQ.znr.1.symm)
   go_wp2_with (at_builtin;refine yD rfl (.tmp 56) (.tmp 57) 22 rfl bz 5 i0 (.int .u8 0) 1 Tryz.underlying22 HI.znr.1 HI.znr.2.1 HI.znr.2.2.1 HI.znr.2.2.2 rfl v k (outs.map B) rfl HO.znr a9 q c9 ((nX rest blk).map B) rfl (by rw [yf];exact HXL.znr) HL9.znr (j9 _) (by unfold maxLen;omega) (by omega) (by omega) ?_)
   intro v10 w10 hown hg
   have nE:Below bz w9 w10:=z8 (Below.refl bz w9) HO.znr hg (xc _) (by omega)
   have HS:=znq (show St w bb w10 [(bi,zcL.map B,59),(bo,own.map B,255)] from (HS.znr.sub (L':=[(bi,zcL.map B,59),(bo,own.map B,255)]) (by intro e he;simp at he;rcases he with rfl | rfl <;> simp)).low nE (by omega) (by intro e he;simp at he;rcases he with rfl | rfl <;> simp <;> omega))
   have HO:=znq (show w10.ownsRow bz 5 1 v10 (k+q) ((outs++nX rest blk).map B) from by rw [List.map_append];exact hown)
   have JP:=nE.size
   clear hown hg nE
   have hsl:=fun (w':World)=>yv (P:=Tryz.prog) w' 22 5 1 Tryz.underlying22 zl ao n' c q q rfl hq2
   have HDR:=znq (show rest.drop 64=rest.drop q∧True from ⟨by
    by_cases h:n'≤64
    ·rw [Yx (by rw [HRL.znr];omega),Yx (by rw [HRL.znr];have:=HQ.znr.1;omega)]
    ·have:=HQ.znr.1;rw [show q=64 by omega],trivial⟩)
   have HOU:=znq (show (outs++nX rest blk).length=k+q∧(outs++nX rest blk)++xa key ng r (many+1) (rest.drop q)=jT key ng r b from ⟨by rw [q8,zcD.znr.1,HXL.znr],by
    rw [← zcD.znr.2,zau (b:=rest) (by rw [HRL.znr];exact h0),← HST.znr,HDR.znr.1,QA]⟩)
   rw [← HOWN.znr.1] at HS
   go_wp2
   refine wp_goto ⟨rfl,Qw.intro bz bo bi (yy ao c q) (n' - q) (c - q) (rest.drop q) v10 (k+q) (outs++nX rest blk) zcL (many+1) _ rfl g1 g2 g3 g4 g5 (by omega) (by have:=HKN.znr.1;omega) (by rw [XQ,HRL.znr]) (zr.rJ HLR.znr (by rw [HRL.znr];exact hnc) q) ?_ ⟨HI2.znr.2,HID.znr⟩ HOU.znr HO.znr HS.znr (by omega),?_⟩
   ·rw [HU.znr.1]
    exact (UInt64.ofNat_add many 1).symm
   ·simp [X9];omega
end Go.Proofs.YtamdifhibogdiaaGreatDoor
namespace Go.Mem
open RowKit Cells
theorem zr.far {w0 w:World} {ao:Option Addr} {xs:List Value} {sb:Nat} (h:zr w0 ao xs) (hb:Below w0.heap.size w0 w) (hsb:w0.heap.size≤sb):∀ w',zI sb w w'→zr w' ao xs:=by
 intro w' ho j u hu
 obtain ⟨b,off,e,hc⟩:=h j u hu
 have hlt:b < w0.heap.size:=block_lt_of_cell hc
 refine ⟨b,off,e,?_⟩
 have h1:w.heap[b]? = w0.heap[b]?:=hb.block b hlt
 have h2:w'.heap[b]? = w.heap[b]?:=ho.block b (Nat.lt_of_lt_of_le hlt hb.size) (by omega)
 rw [← hc]
 unfold World.cell?
 simp only [h2.trans h1]
theorem zr.zdB {w:World} {b off sb:Nat} {xs vs:List Value} {ty:TypeId} (h:Blk w b vs ty) (hx:(vs.drop off).take xs.length=xs) (hne:b≠sb):∀ w',zI sb w w'→zr w' (some ⟨b,off,none⟩) xs :=
 fun w' ho=>Blk.su (h.pR ho hne) off hx
end Go.Mem
namespace Go.Adi
open Ops Oct pI
theorem zff {α:Type} (a x c b:List α) (k:Nat) (h:k+b.length≤x.length):splice (a++x++c) (a.length+k) b=a++splice x k b++c:=by
 unfold splice
 rw [QA a x c,gz,Y2 (by omega),show a.length+k - a.length=k by omega,uD (by omega),bK,Yx (by omega),uo,
  show a.length+k+b.length - a.length=k+b.length by omega,bP h]
 simp only [QA]
theorem zav {r v k q:Nat} {p bs rest:List UInt8} (hp:rest.take k=p) (hk:p.length=k) (hrl:rest.length=16) (hq:k+q=16) (hb:q≤bs.length) :
  yO r v (p++bs)=yO r (vX r v (ZR (splice rest k (bs.take q)))) (bs.drop q):=by
 have h1:(p++bs).take 16=splice rest k (bs.take q):=by
  unfold splice
  rw [hp,gz,Y2 (by omega),show 16 - p.length=q by omega,Ku,Yx (by omega),bC]
 have h2:(p++bs).drop 16=bs.drop q:=by
  rw [bK,Yx (by omega),uo,show 16 - p.length=q by omega]
 rw [Ww (by rw [q8];omega),h1,h2]
end Go.Adi
namespace Go.Proofs.YtamdifhibogdiaaGreatDoor
open RowKit Mem Ops Cells Oct Trn Blake pI Adi
attribute [local irreducible] zE zN zO zM yJ
theorem Qx:(Tryz.prog.info? 3).map (·.size)=some 1:=by kernel_rfl
theorem WG {r v:Nat} {rest:List UInt8} {k:Nat} (h:rest.length=16):((qe r v rest k).drop 10).take 16=rest.map B:=by
 show (rest.map B++[_]).take 16=_
 rw [uD (by rw [yf,h];omega),Y2 (by rw [yf,h];omega)]
theorem jB {r v:Nat} {rest:List UInt8} {k:Nat} (h:rest.length=16):(qe r v rest k)[26]? = some (.int .i64 k):=by
 unfold qe
 rw [bM (by simp [numOf,h])]
 simp [numOf,h]
theorem zdj {r v:Nat} {rest:List UInt8} {k m:Nat} (h:rest.length=16):(qe r v rest k).set 26 (.int .i64 m)=qe r v rest m:=by
 unfold qe
 rw [dD _ _ (by simp [numOf,h])]
 simp [numOf,h]
theorem zhx {r v:Nat} {rest cs:List UInt8} {k j:Nat} (h:j+cs.length≤rest.length):splice (qe r v rest k) (10+j) (cs.map B)=qe r v (splice rest j cs) k:=by
 unfold qe
 have e:=zff ((numOf r).map W++(numOf v).map W) (rest.map B) [.int .i64 k] (cs.map B) j (by simpa using h)
 rw [xV] at e
 exact e
abbrev zaw (sb:Nat) (sl:Value) (us:Nat→Value):Act:={ tmps:=#[.pointer (some ⟨sb,0,none⟩),sl,us 2,us 3,us 4,us 5,us 6,us 7,us 8,us 9,us 10,us 11,us 12,us 13,us 14,us 15,us 16,us 17,us 18,us 19,us 20,us 21,us 22,us 23,us 24,us 25,us 26,us 27,us 28,us 29,us 30,us 31,us 32,us 33,us 34,us 35,us 36,us 37,us 38,us 39,us 40,us 41,us 42],defers:=[] }
def zgU (sb r:Nat) (fin:Nat×List UInt8) (w:World) (x:Act) (wr:World):Prop :=
 ∃ (us:Nat→Value) (ao:Option Addr) (n c:Nat) (bs:List UInt8) (v:Nat) (rest p:List UInt8) (k:Nat),x=zaw sb (.slice ao n c) us∧n≤c∧n≤1000000∧k < 16∧Hid (bs.length=n)∧Hid (∀ w',zI sb w w'→zr w' ao (bs.map B)) ∧
  Hid (rest.length=16∧rest.take k=p∧p.length=k)∧Hid (v < PP)∧Hid (yO r v (p++bs)=fin)∧Hid (Blk wr sb (qe r v rest k) 413)∧Hid (zI sb w wr)
theorem zgU.intro {sb r:Nat} {fin:Nat×List UInt8} {w:World} {x:Act} {wr:World} (ao:Option Addr) (n c:Nat) (bs:List UInt8) (v:Nat) (rest p:List UInt8) (k:Nat) (hx:x=zaw sb (.slice ao n c) (fun i=>x.tmps.getD i undef)) (h1:n≤c) (h2:n≤1000000) (h3:k < 16) (h4:bs.length=n)
  (h5:∀ w',zI sb w w'→zr w' ao (bs.map B)) (h6:rest.length=16∧rest.take k=p∧p.length=k) (h7:v < PP) (h8:yO r v (p++bs)=fin) (h9:Blk wr sb (qe r v rest k) 413) (h10:zI sb w wr):zgU sb r fin w x wr :=
 ⟨_,ao,n,c,bs,v,rest,p,k,hx,h1,h2,h3,h4,h5,h6,h7,h8,h9,h10⟩
theorem QY (sb r v:Nat) (rest p:List UInt8) (k:Nat) (ao:Option Addr) (n cap:Nat) (b:List UInt8) (w:World) (hb:Blk w sb (qe r v rest k) 413) (hrl:rest.length=16) (hp:rest.take k=p) (hk:p.length=k) (sQ:k < 16) (hr:r < PP) (hv:v < PP) (hn:b.length=n) (hc:n≤cap) (hn6:n≤1000000) (hl:∀ w',zI sb w w'→zr w' ao (b.map B)) :
  Calls Tryz.prog 313 #[.pointer (some ⟨sb,0,none⟩),.slice ao n cap] w fun e w'=>(∃ x,e=.returned x)∧(∃ rest',rest'.length=16∧rest'.take (yO r v (p++b)).2.length=(yO r v (p++b)).2∧Blk w' sb (qe r (yO r v (p++b)).1 rest' (yO r v (p++b)).2.length) 413)∧zI sb w w':=by
 have HSB:=znq hb
 have HO:=znq (zI.refl sb w)
 have HR:=znq hr
 have HV:=znq hv
 have HN:=znq hn
 have HL:=znq hl
 have HRP:=znq (show rest.length=16∧rest.take k=p∧p.length=k from ⟨hrl,hp,hk⟩)
 obtain ⟨fin,hfin⟩:∃ f,f=yO r v (p++b):=⟨_,rfl⟩
 have HF:=znq hfin.symm
 rw [← hfin]
 clear hb hr hv hn hl hrl hp hk hfin
 go_enter Tryz.func313,Tryz.ntmps313
 go_wp2_with fail
 refine yd 0 (zgU sb r fin w) (fun x _=>X9 (x.tmps.getD 1 undef)) rfl ?_ ?_
 ·simp only [q9]
  go_wp2
  exact zgU.intro ao n cap b v rest p k rfl hc hn6 sQ HN.znr HL.znr HRP.znr HV.znr HF.znr HSB.znr HO.znr
 ·clear HSB HO HV HN HL HRP HF hc hn6 sQ
  rintro x wr ⟨us,ao,n,c,bs,v,rest,p,k,rfl,hc,hn6,sQ,HN,HL,HRP,HV,HF,HSB,HO⟩
  obtain ⟨q,hq⟩:∃ q,q=min n (16 - k):=⟨_,rfl⟩
  have hq1:q≤n:=by omega
  have hq2:k+q≤16:=by omega
  have HQ:=znq (show q=min n (16 - k)∧True from ⟨hq,trivial⟩)
  have HTL:=znq (show (bs.take q).length=q from by rw [Ku,HN.znr];omega)
  clear hq
  have zbG:=fun (x:zG wr.drew)=>(HSB.znr.drew.below x.later HSB.znr.drew.lt).cell 26 _ (jB HRP.znr.1)
  have hs1:=fun (w':World)=>yY (P:=Tryz.prog) w' 59 5 16 Tryz.underlying59 zl sb 10 k k rfl (by omega)
  simp only [zaw]
  go_wp2_with fail
  refine zn [0,1,2,3,4,5,6,7,8,9,10] (by kernel_rfl) (by kernel_rfl) ?_
  rintro w1 rfl
  refine mqR ?_
  clear zbG hs1
  have HSB:=znq HSB.znr.drew
  have HO:=znq HO.znr.drew
  refine zp rfl rfl (by rfl) (fun K hK=>?_)
  refine HSB.znr.rC (10+k) ((bs.take q).map B) rfl rfl rfl Tryz.underlying22 zl (fun _=>rfl) (by rw [bN];exact (HL.znr _ HO.znr).take q) (by rw [yf,HTL.znr];exact HQ.znr.1) (by rw [yf,HTL.znr,jY HRP.znr.1];omega) (zg _) (fun w2 hb ho=>hK _ _ ?_)
  clear hK K
  rw [zhx (by rw [HTL.znr,HRP.znr.1];exact hq2)] at hb
  obtain ⟨rs,hrs⟩:∃ x,x=splice rest k (bs.take q):=⟨_,rfl⟩
  have HRS:=znq (show splice rest k (bs.take q)=rs∧rs.length=16 from ⟨hrs.symm,by rw [hrs,length_splice _ _ _ (by rw [HTL.znr,HRP.znr.1];exact hq2)];exact HRP.znr.1⟩)
  have HRT:=znq (show rs.take (k+q)=p++bs.take q from by
   rw [hrs]
   unfold splice
   rw [HRP.znr.2.1,← QA,uD (by rw [q8,HTL.znr,HRP.znr.2.2];omega),Y2 (by rw [q8,HTL.znr,HRP.znr.2.2];omega)])
  rw [← hrs] at hb
  clear hrs
  have HSB:=znq hb
  have HO:=znq (HO.znr.trans (zI.nH ho))
  clear hb ho
  simp only [yf,HTL.znr]
  go_simp
  refine mqR ?_
  refine zo ?_
  obtain ⟨m,hm⟩:∃ m,m=k+q:=⟨_,rfl⟩
  have hmI:(k:Int)+(q:Int)=(m:Int):=by omega
  have hm16:m≤16:=by omega
  have HM:=znq (show m=k+q∧True from ⟨hm,trivial⟩)
  rw [← hm] at HRT
  clear hm
  have zbG:=HSB.znr.cell 26 _ (jB HRS.znr.2)
  go_wp2_with (refine HSB.znr.ry (i:=26) (v:=.int .i64 m) rfl rfl rfl rfl Qx rfl rfl (by rw [jY HRS.znr.2];omega) ?_)
  intro w3 hb ho
  rw [zdj HRS.znr.2] at hb
  have HSB:=znq hb
  have HO:=znq (HO.znr.trans (zI.nH ho))
  clear hb ho zbG
  have hsl:=fun (w':World)=>yv (P:=Tryz.prog) w' 22 5 1 Tryz.underlying22 zl ao n c q q rfl hq1
  have zbG:=HSB.znr.cell 26 _ (jB HRS.znr.2)
  by_cases h16:m < 16
  ·have d16:decide ((m:Int) < 16)=true:=by simp;omega
   have HFE:=znq (show fin=(v,p++bs)∧q=n from ⟨by rw [← HF.znr,Wv (by rw [q8,HRP.znr.2.2,HN.znr];have:=HQ.znr.1;have:=HM.znr.1;omega)],by have:=HQ.znr.1;have:=HM.znr.1;omega⟩)
   have HPB:=znq (show p++bs=p++bs.take q∧(p++bs).length=m from ⟨by rw [Y2 (by rw [HN.znr,HFE.znr.2];exact xc _)],by rw [q8,HRP.znr.2.2,HN.znr,← HFE.znr.2];exact HM.znr.1.symm⟩)
   go_wp2
   try rw [Exit.nZ]
   refine bodyPost_ret (results_none rfl _ _ _) rfl ?_
   refine ⟨⟨_,rfl⟩,⟨rs,HRS.znr.2,?_,?_⟩,HO.znr⟩
   ·rw [HFE.znr.1,HPB.znr.2,HRT.znr]
    exact HPB.znr.1.symm
   ·rw [HFE.znr.1,HPB.znr.2]
    exact HSB.znr
  ·have d16:decide ((m:Int) < 16)=false:=by simp;omega
   have hm:=HM.znr.1
   have hkq:k+q=16:=by omega
   have HFE:=znq (show yO r (vX r v (ZR rs)) (bs.drop q)=fin from by
    rw [← HF.znr,← HRS.znr.1]
    exact (zav HRP.znr.2.1 HRP.znr.2.2 HRP.znr.1 hkq (by rw [HN.znr];exact hq1)).symm)
   clear hm
   go_wp2_with (refine HSB.znr.rZ (off:=10) rfl rfl rfl zc (WG HRS.znr.2) (by rw [yf];exact HRS.znr.2) ?_)
   refine (zkq rs _ HRS.znr.2).mono ?_
   rintro e w4 ⟨rfl,hbel⟩
   have HSB:=znq (HSB.znr.below hbel HSB.znr.lt)
   have HO:=znq (HO.znr.trans (zI.of_below hbel))
   clear hbel zbG hsl
   go_wp2_with fail
   refine (zda sb r v (ZR rs) rs m _ HSB.znr HR.znr HV.znr (ma _ ze6)).mono ?_
   rintro e w5 ⟨⟨x5,rfl⟩,hb,ho⟩
   have HSB:=znq hb
   have HO:=znq (HO.znr.trans ho)
   clear hb ho
   go_wp2_with (refine HSB.znr.ry (i:=26) (v:=.int .i64 (0:Nat)) rfl rfl rfl rfl Qx rfl rfl (by rw [jY HRS.znr.2];omega) ?_)
   intro w6 hb ho
   have HSB:=znq (show Blk w6 sb (qe r (vX r v (ZR rs)) rs 0) 413 from by rw [← zdj (k:=m) (m:=0) HRS.znr.2];exact hb)
   have HO:=znq (HO.znr.trans (zI.nH ho))
   clear hb ho
   go_wp2
   refine wp_goto ⟨rfl,zgU.intro (yy ao c q) (n - q) (c - q) (bs.drop q) (vX r v (ZR rs)) rs [] 0 rfl (by omega) (by omega) (by omega) (by rw [XQ,HN.znr]) (fun w' ho=>zr.rJ (HL.znr w' ho) (by rw [HN.znr];exact hc) q) ⟨HRS.znr.2,rfl,rfl⟩ (JW _ _ _) (by rw [uo];exact HFE.znr) HSB.znr HO.znr,?_⟩
   have:=HQ.znr.1
   simp [X9];omega
end Go.Proofs.YtamdifhibogdiaaGreatDoor
namespace Go.Adi
open Ops Oct pI
theorem KO {p:List UInt8} {k:Nat} (hk:p.length=k) (h:k < 16):(splice (zf 16) 0 p).set k 1=p++[1]++zf (15 - p.length):=by
 have e:splice (zf 16) 0 p=p++zf (16 - k):=by
  unfold splice
  rw [cO,uo,bH,hk]
  congr 1
  unfold zf
  rw [List.drop_replicate]
 rw [e,dD _ _ (by omega),show k - p.length=0 by omega,hk,show 16 - k=(15 - k)+1 by omega]
 simp [zf,List.replicate_succ]
end Go.Adi
namespace Go.Proofs.YtamdifhibogdiaaGreatDoor
open RowKit Mem Ops Cells Oct Trn Blake pI Adi
attribute [local irreducible] zE zN zO zM yJ
theorem zax:(Tryz.prog.info? 413).map (·.zero)=some (some (.agg (qe 0 0 (zf 16) 0).toArray)):=by kernel_rfl
theorem zdk (r v:Nat) (rest:List UInt8) (k:Nat):∀ x∈qe r v rest k,x.oneCell'=true:=by
 intro x hx
 unfold qe at hx
 simp only [List.mem_append] at hx
 rcases hx with ((h | h) | h) | h
 ·exact yT _ x h
 ·exact yT _ x h
 ·exact zg _ x h
 ·simp at h;rw [h];rfl
theorem zhy (sb r v:Nat) (rest p:List UInt8) (k:Nat) (w:World) (hb:Blk w sb (qe r v rest k) 413) (hrl:rest.length=16) (hp:rest.take k=p) (hk:p.length=k) (sQ:k < 16) (hr:r < PP) (hv:v < PP) :
  Calls Tryz.prog 327 #[.pointer (some ⟨sb,0,none⟩)] w fun e w'=>e=.returned (.agg ((numOf (qq r v p)).map W).toArray)∧Below w.heap.size w w':=by
 have HSB:=znq hb
 have HR:=znq hr
 have HV:=znq hv
 have HRP:=znq (show rest.length=16∧rest.take k=p∧p.length=k from ⟨hrl,hp,hk⟩)
 have HVV:=znq (xG v)
 have HS:=znq (St.start w)
 have hsb:=hb.lt
 clear hb hr hv hrl hp hk
 by_cases h0:k=0
 ·subst h0
  have HE:=znq (show qq r v p=v∧True from ⟨by unfold qq;rw [if_pos HRP.znr.2.2],trivial⟩)
  rw [HE.znr.1]
  go_enter Tryz.func327,Tryz.ntmps327
  go_wp2_with (refine ze 410 ((wh 5 (0:UInt32)).map W) _ rfl rfl xr rfl ?_)
  intro w1 hb hbel
  have HSB:=znq (HSB.znr.below hbel hsb)
  have HS:=znq (HS.znr.push hb hbel)
  clear hb hbel
  generalize hbb:w.heap.size=bb at *
  have HBB:=znq hbb
  clear hbb
  have zbG:=HSB.znr.cell 26 _ (jB (r:=r) (v:=v) (k:=0) HRP.znr.1)
  go_wp2_with (first | (refine HSB.znr.rZ (off:=5) rfl rfl rfl zP (Ve r v rest 0) HVV.znr ?_) | (refine (HS.znr.get 0 rfl).mM rfl rfl rfl (cs:=(numOf v).map W) rfl zP rfl rfl (yT _) ?_))
  intro w2 hb ho
  have HE:=znq (zk HS.znr.bel ho (by omega))
  clear ho zbG
  go_wp2
  refine hb.result rfl rfl rfl zP rfl ⟨rfl,?_⟩
  rw [HBB.znr]
  exact HE.znr
 ·have d0:((k:Int)==0)=false:=by simp;omega
  have HE:=znq (show qq r v p=vX r v (JV p)∧True from ⟨by unfold qq;rw [if_neg (by rw [HRP.znr.2.2];exact h0)],trivial⟩)
  rw [HE.znr.1]
  clear HE
  have HPL:=znq (show (p.map B).length=k by rw [yf];exact HRP.znr.2.2)
  go_enter Tryz.func327,Tryz.ntmps327
  go_wp2_with (refine ze 410 ((wh 5 (0:UInt32)).map W) _ rfl rfl xr rfl ?_)
  intro w1 hb hbel
  have HSB:=znq (HSB.znr.below hbel hsb)
  have HS:=znq (HS.znr.push hb hbel)
  have hlt1:=hb.lt
  clear hb hbel
  generalize hbb:w.heap.size=bb at *
  have HBB:=znq hbb
  clear hbb
  have zbG:=HSB.znr.cell 26 _ (jB HRP.znr.1)
  go_wp2_with (refine ze 59 ((zf 16).map B) _ rfl rfl zj rfl ?_)
  intro w2 hb hbel
  have HSB:=znq (HSB.znr.below hbel HSB.znr.lt)
  have HS:=znq (HS.znr.push hb hbel)
  have hlt2:=hb.lt
  clear hb hbel zbG
  generalize w1.heap.size=b1 at *
  have zbG:=fun (x:zG w2.drew)=>(HSB.znr.drew.below x.later HSB.znr.drew.lt).cell 26 _ (jB HRP.znr.1)
  have hs1:=fun (w':World)=>qN (P:=Tryz.prog) w' 59 5 16 Tryz.underlying59 zl sb 10 k k rfl (by omega) (by omega)
  go_wp2_with fail
  refine zn [0,1,2,3,4,5,6,7,8,9] (by kernel_rfl) (by kernel_rfl) ?_
  rintro w3 rfl
  refine mqR ?_
  clear zbG hs1
  have HSB:=znq HSB.znr.drew
  have HS:=znq HS.znr.drew
  have HLP:=znq (show zr w2.drew (some ⟨sb,10,none⟩) (p.map B) from Blk.su HSB.znr 10 (by
   have h:=congrArg (List.take k) (WG (r:=r) (v:=v) (k:=k) HRP.znr.1)
   rw [List.take_take,cz (by omega),← bN,HRP.znr.2.1] at h
   rw [HPL.znr]
   exact h))
  refine zp rfl rfl (by rfl) (fun K hK=>?_)
  refine (HS.znr.get 0 rfl).rC 0 (p.map B) rfl rfl rfl Tryz.underlying22 zl (fun _=>rfl) HLP.znr (by rw [HPL.znr];exact (cz (by omega)).symm) (by rw [HPL.znr,yf,zd];omega) (zg _) (fun w4 hb ho=>hK _ _ ?_)
  clear hK K
  rw [xV] at hb
  have HSB:=znq (HSB.znr.only ho (by omega))
  have HS:=znq (HS.znr.change 0 hb ho (by omega) (by simp;omega))
  have hz4:w2.heap.size≤w4.heap.size:=by rw [ho.size];exact xc _
  clear hb ho
  go_simp
  refine zo ?_
  have HLA:=znq (show (splice (zf 16) 0 p).set k 1=p++[1]++zf (15 - p.length)∧(splice (zf 16) 0 p).length=16 from ⟨KO HRP.znr.2.2 sQ,by rw [length_splice _ _ _ (by rw [zd,HRP.znr.2.2];omega),zd]⟩)
  generalize splice (zf 16) 0 p=z1 at *
  obtain ⟨la,hla⟩:∃ x,x=p++[1]++zf (15 - p.length):=⟨_,rfl⟩
  rw [← hla] at HLA
  have HLL:=znq (show la.length=16∧leN la % PP=JV p from ⟨by rw [← HLA.znr.1,List.length_set];exact HLA.znr.2,by rw [hla];rfl⟩)
  have HLV:=znq (show (la.map B).length=16 by rw [yf];exact HLL.znr.1)
  clear hla
  have zbG:=HSB.znr.cell 26 _ (jB HRP.znr.1)
  go_wp2_with (refine (HS.znr.get 0 rfl).ry (i:=k) (v:=B 1) rfl rfl rfl rfl zl rfl rfl (by rw [yf,HLA.znr.2];exact sQ) ?_)
  intro w5 hb ho
  rw [ym,HLA.znr.1] at hb
  have HSB:=znq (HSB.znr.only ho (by omega))
  have HS:=znq (HS.znr.change 0 hb ho (by omega) (by simp;omega))
  have hz5:w2.heap.size≤w5.heap.size:=by rw [ho.size];exact hz4
  clear hb ho zbG
  have HSL:=znq (jY (r:=r) (v:=v) (k:=k) HRP.znr.1)
  go_wp2_with (first | (refine HSB.znr.mP rfl rfl rfl Kv HSL.znr ?_) | (refine ze 413 (qe 0 0 (zf 16) 0) _ rfl rfl zax rfl ?_))
  intro w6 hb hbel
  have HS:=znq (HS.znr.push hb hbel)
  have zfP:=hb.lt
  clear hb hbel HSB
  generalize w5.heap.size=b5 at *
  go_wp2_with (refine (HS.znr.get 0 rfl).mM rfl rfl rfl (cs:=qe r v rest k) rfl Kv (jY (zd 16)) HSL.znr (zdk _ _ _ _) ?_)
  intro w7 hb ho
  have HS:=znq (HS.znr.change 0 hb ho (by omega) (by simp;omega))
  clear hb ho
  go_wp2_with (refine (HS.znr.get 1 rfl).mP rfl rfl rfl zc HLV.znr ?_)
  refine (zc9 la _ HLL.znr.1).mono ?_
  rintro e w8 ⟨rfl,hbel⟩
  rw [HLL.znr.2]
  have HS:=znq (HS.znr.later hbel)
  clear hbel
  go_wp2_with fail
  refine (zda b5 r v (JV p) rest k _ (HS.znr.get 0 rfl) HR.znr HV.znr (ma _ ze6)).mono ?_
  rintro e w9 ⟨⟨x9,rfl⟩,hb,ho⟩
  have HS:=znq (St.tq HS.znr 0 hb ho (by omega) (by simp;omega))
  clear hb ho
  have HPV:=znq (xG (vX r v (JV p)))
  go_wp2_with (first | (refine (HS.znr.get 0 rfl).rZ (off:=5) rfl rfl rfl zP (Ve r (vX r v (JV p)) rest k) HPV.znr ?_) | (refine (HS.znr.get 2 rfl).mM rfl rfl rfl (cs:=(numOf (vX r v (JV p))).map W) rfl zP rfl rfl (yT _) ?_))
  intro w10 hb ho
  have HE:=znq (zk HS.znr.bel ho (by omega))
  clear ho
  go_wp2
  refine hb.result rfl rfl rfl zP rfl ⟨rfl,?_⟩
  rw [HBB.znr]
  exact HE.znr
theorem zm3 (sb r v:Nat) (rest p:List UInt8) (k:Nat) (w:World) (hb:Blk w sb (qe r v rest k) 413) (hrl:rest.length=16) (hp:rest.take k=p) (hk:p.length=k) (sQ:k < 16) (hr:r < PP) (hv:v < PP) :
  Calls Tryz.prog 322 #[.pointer (some ⟨sb,0,none⟩)] w fun e w'=>e=.returned (.agg ((Z7 (qq r v p)).map B).toArray)∧Below w.heap.size w w':=by
 have HSB:=znq hb
 have HR:=znq hr
 have HV:=znq hv
 have HRP:=znq (show rest.length=16∧rest.take k=p∧p.length=k from ⟨hrl,hp,hk⟩)
 have HLL:=znq (show ((Z7 (qq r v p)).map B).length=16 by rw [yf];exact YA _)
 have HS:=znq (St.start w)
 have hsb:=hb.lt
 clear hb hr hv hrl hp hk
 go_enter Tryz.func322,Tryz.ntmps322
 go_wp2_with (refine ze 59 ((zf 16).map B) _ rfl rfl zj rfl ?_)
 intro w1 hb hbel
 have HSB:=znq (HSB.znr.below hbel hsb)
 have HS:=znq (HS.znr.push hb hbel)
 have hlt1:=hb.lt
 clear hb hbel
 generalize hbb:w.heap.size=bb at *
 have HBB:=znq hbb
 clear hbb
 go_wp2_with fail
 refine (zhy sb r v rest p k _ HSB.znr HRP.znr.1 HRP.znr.2.1 HRP.znr.2.2 sQ HR.znr HV.znr).mono ?_
 rintro e w2 ⟨rfl,hbel⟩
 have HS:=znq (HS.znr.later hbel)
 clear hbel
 go_wp2_with fail
 refine (zmu (qq r v p) _ (zhk HV.znr)).mono ?_
 rintro e w3 ⟨rfl,hbel⟩
 have HS:=znq (HS.znr.later hbel)
 clear hbel
 go_wp2_with (refine (HS.znr.get 0 rfl).mM rfl rfl rfl (cs:=(Z7 (qq r v p)).map B) rfl zc (by rw [yf,zd]) HLL.znr (zg _) ?_)
 intro w4 hb ho
 have HE:=znq (zk HS.znr.bel ho (by omega))
 clear ho
 go_wp2
 refine hb.result rfl rfl rfl zc HLL.znr ⟨rfl,?_⟩
 rw [HBB.znr]
 exact HE.znr
end Go.Proofs.YtamdifhibogdiaaGreatDoor
namespace Go
def J5:Array Value→Sem Value:=fun args=>do
 let (x,y,b) ← Extern.MathBitsCarry.three "Sub64" args
 pure (Extern.MathBitsCarry.pair ((x+Extern.MathBitsCarry.m64 - y - b) % Extern.MathBitsCarry.m64) (if x < y+b then 1 else 0))
theorem zhs {P:Program} (x y k:Nat) (hk:k≤1) (w:World) :
  (J5 #[.int .u64 x,.int .u64 y,.int .u64 (k:Int)]).run P w =
   .ok (.tuple #[.int .u64 ((x+18446744073709551616 - y - k) % 18446744073709551616:Nat),.int .u64 ((if x < y+k then 1 else 0:Nat):Int)]) w:=by
 have:k=0∨k=1:=by omega
 rcases this with rfl | rfl <;> rfl
end Go
namespace Go.Adi
open Ops
theorem zmr (p q:UInt64×UInt64):(nY p q).1.toNat=(p.1.toNat+q.1.toNat) % 18446744073709551616:=by
 unfold nY
 rw [XM]
 unfold nat
 omega
theorem zms (p q:UInt64×UInt64):(nY p q).2.toNat=(p.2.toNat+q.2.toNat+(p.1.toNat+q.1.toNat) / 18446744073709551616) % 18446744073709551616:=by
 unfold nY
 rw [Qj]
 unfold nat
 omega
theorem zkj (p q:UInt64×UInt64):(qp p q).1.toNat=(p.1.toNat+18446744073709551616 - q.1.toNat) % 18446744073709551616:=by
 have h1:=p.1.toNat_lt
 have h2:=q.1.toNat_lt
 have h3:=p.2.toNat_lt
 have h4:=q.2.toNat_lt
 unfold qp
 rw [XM]
 unfold nat
 omega
theorem zkk (p q:UInt64×UInt64):(qp p q).2.toNat=(p.2.toNat+18446744073709551616 - q.2.toNat - (if p.1.toNat < q.1.toNat then 1 else 0)) % 18446744073709551616:=by
 have h1:=p.1.toNat_lt
 have h2:=q.1.toNat_lt
 have h3:=p.2.toNat_lt
 have h4:=q.2.toNat_lt
 unfold qp
 rw [Qj]
 unfold nat
 split <;> omega
end Go.Adi
namespace Go.Proofs.YtamdifhibogdiaaGreatDoor
open RowKit Mem Ops Cells Oct Adi
attribute [local irreducible] zE zN zO zM
def zQ (p:UInt64×UInt64):List Value:=[L p.1,L p.2]
theorem zX (p:UInt64×UInt64):∀ v∈zQ p,v.oneCell'=true:=by
 intro v hv
 simp [zQ] at hv
 rcases hv with rfl | rfl <;> rfl
theorem zc4 (x y k:Nat) (hk:k≤1) (w:World):(callFunc 270 #[.int .u64 x,.int .u64 y,.int .u64 k]).run Tryz.prog w=.ok (.value (.tuple #[.int .u64 ((x+y+k) % 18446744073709551616:Nat),.int .u64 ((x+y+k) / 18446744073709551616:Nat)])) w:=by
 rw [run_callFunc_extern Tryz.func270 (by kernel_rfl) (by kernel_rfl) (by kernel_rfl) (e:=add64Entry) (by kernel_rfl),run_add64 x y k (by omega) (by omega) (by omega) (by omega)]
 simp
theorem zc5 (x y k:Nat) (hk:k≤1) (w:World):(callFunc 311 #[.int .u64 x,.int .u64 y,.int .u64 k]).run Tryz.prog w=.ok (.value (.tuple #[.int .u64 ((x+18446744073709551616 - y - k) % 18446744073709551616:Nat),.int .u64 ((if x < y+k then 1 else 0:Nat):Int)])) w:=by
 rw [run_callFunc_extern Tryz.func311 (by kernel_rfl) (by kernel_rfl) (by kernel_rfl) (e:=J5) (by kernel_rfl),zhs x y k hk]
 rfl
theorem J6 (p q:UInt64×UInt64) (w:World):Calls Tryz.prog 257 #[.agg (zQ p).toArray,.agg (zQ q).toArray] w fun e w'=>e=.returned (.agg (zQ (nY p q)).toArray)∧Below w.heap.size w w':=by
 obtain ⟨c,hc⟩:∃ c,c=(p.1.toNat+q.1.toNat) / 18446744073709551616:=⟨_,rfl⟩
 have hc1:c≤1:=by have:=p.1.toNat_lt;have:=q.1.toNat_lt;omega
 obtain ⟨d,hd⟩:∃ d,d=(p.2.toNat+q.2.toNat+c) / 18446744073709551616:=⟨_,rfl⟩
 have hr1:∀ w:World,(callFunc 270 #[.int .u64 p.1.toNat,.int .u64 q.1.toNat,.int .u64 0]).run Tryz.prog w=.ok (.value (.tuple #[.int .u64 (nY p q).1.toNat,.int .u64 c])) w:=fun w=>by
  have:=zc4 p.1.toNat q.1.toNat 0 (by omega) w
  rw [gG,← zmr,← hc] at this
  exact this
 have hr2:∀ w:World,(callFunc 270 #[.int .u64 p.2.toNat,.int .u64 q.2.toNat,.int .u64 c]).run Tryz.prog w=.ok (.value (.tuple #[.int .u64 (nY p q).2.toNat,.int .u64 d])) w:=fun w=>by
  have:=zc4 p.2.toNat q.2.toNat c hc1 w
  rw [← hd,hc,← zms,← hc] at this
  exact this
 obtain ⟨z,hz⟩:∃ z,z=nY p q:=⟨_,rfl⟩
 rw [← hz] at hr1 hr2 ⊢
 have HS:=znq (St.start w)
 clear hc hd hz
 go_enter Tryz.func257,Tryz.ntmps257
 go_wp2_with (refine zh 62 _ (zQ p) _ rfl rfl rfl rfl ?_)
 intro w1 hb hbel;have HS:=znq (HS.znr.push hb hbel);have hlt1:=hb.lt;clear hb hbel
 go_wp2_with (refine zh 62 _ (zQ q) _ rfl rfl rfl rfl ?_)
 intro w2 hb hbel;have HS:=znq (HS.znr.push hb hbel);have hlt2:=hb.lt;clear hb hbel
 go_wp2_with (refine ze 62 ([L 0,L 0]) _ rfl rfl zT rfl ?_)
 intro w3 hb hbel;have HS:=znq (HS.znr.push hb hbel);have hlt3:=hb.lt;clear hb hbel
 generalize hbb:w.heap.size=bb at *
 generalize w1.heap.size=b1 at *
 generalize w2.heap.size=b2 at *
 have HBB:=znq hbb
 clear hbb
 have hx0:=(HS.znr.get 2 rfl).cell 0 (L p.1) rfl
 have hx1:=(HS.znr.get 2 rfl).cell 1 (L p.2) rfl
 have hy0:=(HS.znr.get 1 rfl).cell 0 (L q.1) rfl
 have hy1:=(HS.znr.get 1 rfl).cell 1 (L q.2) rfl
 go_wp2_with (refine (HS.znr.get 0 rfl).mM rfl rfl rfl (cs:=zQ z) rfl zq rfl rfl (zX _) ?_)
 intro w4 hb ho
 have HE:=znq (zk HS.znr.bel ho (by omega))
 clear ho hx0 hx1 hy0 hy1
 go_wp2
 refine hb.result rfl rfl rfl zq rfl ⟨rfl,?_⟩
 rw [HBB.znr]
 exact HE.znr
theorem WB (p q:UInt64×UInt64) (w:World):Calls Tryz.prog 305 #[.agg (zQ p).toArray,.agg (zQ q).toArray] w fun e w'=>e=.returned (.agg (zQ (qp p q)).toArray)∧Below w.heap.size w w':=by
 obtain ⟨c,hc⟩:∃ c:Nat,c=(if p.1.toNat < q.1.toNat then 1 else 0):=⟨_,rfl⟩
 have hc1:c≤1:=by rw [hc];split <;> omega
 obtain ⟨d,hd⟩:∃ d:Nat,d=(if p.2.toNat < q.2.toNat+c then 1 else 0):=⟨_,rfl⟩
 have hr1:∀ w:World,(callFunc 311 #[.int .u64 p.1.toNat,.int .u64 q.1.toNat,.int .u64 0]).run Tryz.prog w=.ok (.value (.tuple #[.int .u64 (qp p q).1.toNat,.int .u64 c])) w:=fun w=>by
  have:=zc5 p.1.toNat q.1.toNat 0 (by omega) w
  simp only [Nat.sub_zero,gG] at this
  rw [← zkj,← hc] at this
  exact this
 have hr2:∀ w:World,(callFunc 311 #[.int .u64 p.2.toNat,.int .u64 q.2.toNat,.int .u64 c]).run Tryz.prog w=.ok (.value (.tuple #[.int .u64 (qp p q).2.toNat,.int .u64 d])) w:=fun w=>by
  have:=zc5 p.2.toNat q.2.toNat c hc1 w
  rw [← hd,hc,← zkk,← hc] at this
  exact this
 obtain ⟨z,hz⟩:∃ z,z=qp p q:=⟨_,rfl⟩
 rw [← hz] at hr1 hr2 ⊢
 have HS:=znq (St.start w)
 clear hc hd hz
 go_enter Tryz.func305,Tryz.ntmps305
 go_wp2_with (refine zh 62 _ (zQ p) _ rfl rfl rfl rfl ?_)
 intro w1 hb hbel;have HS:=znq (HS.znr.push hb hbel);have hlt1:=hb.lt;clear hb hbel
 go_wp2_with (refine zh 62 _ (zQ q) _ rfl rfl rfl rfl ?_)
 intro w2 hb hbel;have HS:=znq (HS.znr.push hb hbel);have hlt2:=hb.lt;clear hb hbel
 go_wp2_with (refine ze 62 ([L 0,L 0]) _ rfl rfl zT rfl ?_)
 intro w3 hb hbel;have HS:=znq (HS.znr.push hb hbel);have hlt3:=hb.lt;clear hb hbel
 generalize hbb:w.heap.size=bb at *
 generalize w1.heap.size=b1 at *
 generalize w2.heap.size=b2 at *
 have HBB:=znq hbb
 clear hbb
 have hx0:=(HS.znr.get 2 rfl).cell 0 (L p.1) rfl
 have hx1:=(HS.znr.get 2 rfl).cell 1 (L p.2) rfl
 have hy0:=(HS.znr.get 1 rfl).cell 0 (L q.1) rfl
 have hy1:=(HS.znr.get 1 rfl).cell 1 (L q.2) rfl
 go_wp2_with (refine (HS.znr.get 0 rfl).mM rfl rfl rfl (cs:=zQ z) rfl zq rfl rfl (zX _) ?_)
 intro w4 hb ho
 have HE:=znq (zk HS.znr.bel ho (by omega))
 clear ho hx0 hx1 hy0 hy1
 go_wp2
 refine hb.result rfl rfl rfl zq rfl ⟨rfl,?_⟩
 rw [HBB.znr]
 exact HE.znr
end Go.Proofs.YtamdifhibogdiaaGreatDoor
namespace Go.Adi
open Ops Oct pI
theorem zhz (a b:UInt64):z7 (a,b)=zz a++zz b:=rfl
theorem zm4 {m:Nat} (h:m≤1000000):(xf (wF m) 3,yp (wF m) 61)=wd (8*m):=by
 have hm:(wF m).toNat=m:=UInt64.toNat_ofNat_of_lt' (by show m < 18446744073709551616;omega)
 unfold wd xf yp
 rw [hm]
 congr 2 <;> omega
end Go.Adi
namespace Go.Cells
open RowKit
theorem St.ziW {w0 w w':World} {base b:Nat} {L:List (Nat×List Value×TypeId)} (h:St w0 base w L) (ho:zI b w w') (hb:base≤b) (hne:∀ e∈L,e.1≠b):St w0 base w' L :=
 ⟨h.nW,jP h.bel ho hb h.size,fun e he=>(h.all e he).pR ho (hne e he)⟩
end Go.Cells
namespace Go.Proofs.YtamdifhibogdiaaGreatDoor
open RowKit Mem Ops Cells Oct Trn Blake pI Adi
attribute [local irreducible] zE zN zO zM yJ
theorem Kx (sb r v:Nat) (rest p:List UInt8) (k:Nat) (w:World) (hb:Blk w sb (qe r v rest k) 413) (hrl:rest.length=16) (hp:rest.take k=p) (hk:p.length=k) (sQ:k < 16) (hr:r < PP) (hv:v < PP) :
  Calls Tryz.prog 314 #[.pointer (some ⟨sb,0,none⟩)] w fun e w'=>e=.returned (.agg (zQ (xo (Z7 (qq r v p)))).toArray)∧Below w.heap.size w w':=by
 have HSB:=znq hb
 have HR:=znq hr
 have HV:=znq hv
 have HRP:=znq (show rest.length=16∧rest.take k=p∧p.length=k from ⟨hrl,hp,hk⟩)
 obtain ⟨lo,hlo⟩:∃ x,x=Z7 (qq r v p):=⟨_,rfl⟩
 have HLO:=znq (show Z7 (qq r v p)=lo∧lo.length=16 from ⟨hlo.symm,by rw [hlo];exact YA _⟩)
 have HLL:=znq (show (lo.map B).length=16 by rw [yf];exact HLO.znr.2)
 have HS:=znq (St.start w)
 have hsb:=hb.lt
 rw [← hlo]
 clear hb hr hv hrl hp hk hlo
 go_enter Tryz.func314,Tryz.ntmps314
 go_wp2_with (refine ze 62 ([L 0,L 0]) _ rfl rfl zT rfl ?_)
 intro w1 hb hbel;have HS:=znq (HS.znr.push hb hbel);have hlt1:=hb.lt;clear hb hbel
 generalize hbb:w.heap.size=bb at *
 have HBB:=znq hbb
 have hbel:Below w.heap.size w w1:=by rw [hbb];exact HS.znr.bel
 have HSB:=znq (HSB.znr.below hbel (by omega))
 clear hbb hbel
 go_wp2_with fail
 refine (zm3 sb r v rest p k _ HSB.znr HRP.znr.1 HRP.znr.2.1 HRP.znr.2.2 sQ HR.znr HV.znr).mono ?_
 rintro e w2 ⟨rfl,hbel⟩
 rw [HLO.znr.1]
 have HS:=znq (HS.znr.later hbel)
 have h1:bb < w2.heap.size:=HS.znr.ne _ (xU (i:=0) rfl)
 clear hbel
 go_wp2_with (refine ze 59 ((zf 16).map B) _ rfl rfl zj rfl ?_)
 intro w3 hb hbel
 have HS:=znq (HS.znr.push hb hbel)
 have hlt3:=hb.lt
 clear hb hbel
 generalize w2.heap.size=b2 at *
 go_wp2_with (refine (HS.znr.get 0 rfl).mM rfl rfl rfl (cs:=lo.map B) rfl zc (by rw [yf,zd]) HLL.znr (zg _) ?_)
 intro w4 hb ho
 have HS:=znq (HS.znr.change 0 hb ho (by omega) (by simp;omega))
 clear hb ho
 go_wp2_with fail
 refine (YL (some ⟨b2,0,none⟩) 16 16 lo _ HLO.znr.2 (by omega) (HS.znr.get 0 rfl).lies).mono ?_
 rintro e w5 ⟨rfl,hbel⟩
 have HS:=znq (HS.znr.later hbel)
 clear hbel
 go_wp2_with (refine (HS.znr.get 1 rfl).mM rfl rfl rfl (cs:=zQ (xo lo)) rfl zq rfl rfl (zX _) ?_)
 intro w6 hb ho
 have HE:=znq (zk HS.znr.bel ho (by omega))
 clear ho
 go_wp2
 refine hb.result rfl rfl rfl zq rfl ⟨rfl,?_⟩
 rw [HBB.znr]
 exact HE.znr
def ZV (kt km:List UInt8) (wv:Value):List Value:=kt.map B++km.map B++[wv]
structure Y3 (w:World) (kb:Nat) (kt km:List UInt8) (ws:List UInt32):Prop where
 blk:∃ wa wc,Blk w kb (ZV kt km (.slice wa 268 wc)) 307∧zr w wa (ws.map W)∧268≤wc
 zeA:kt.length=16
 zeT:km.length=16
 zcT:ws.length=268
theorem Y3.below {w w':World} {kb:Nat} {kt km:List UInt8} {ws:List UInt32} (h:Y3 w kb kt km ws) (hb:Below w.heap.size w w'):Y3 w' kb kt km ws:=by
 obtain ⟨wa,wc,h1,h2,h3⟩:=h.blk
 exact ⟨⟨wa,wc,h1.below hb h1.lt,h2.below hb,h3⟩,h.zeA,h.zeT,h.zcT⟩
theorem zh0 {kt km:List UInt8} {wv:Value} (h:kt.length=16):((ZV kt km wv).drop 0).take 16=kt.map B:=by
 unfold ZV
 rw [bL,QA,uD (by rw [yf,h];omega),Y2 (by rw [yf,h];omega)]
theorem zh1 {kt km:List UInt8} {wv:Value} (h:kt.length=16) (h2:km.length=16):((ZV kt km wv).drop 16).take 16=km.map B:=by
 unfold ZV
 rw [QA,bK,Yx (by rw [yf,h];omega),uo,yf,h,bL,uD (by rw [yf,h2];omega),Y2 (by rw [yf,h2];omega)]
theorem zh2 {kt km:List UInt8} {wv:Value} (h:kt.length=16) (h2:km.length=16):(ZV kt km wv)[32]? = some wv:=by
 unfold ZV
 rw [bM (by simp [h,h2])]
 simp [h,h2]
theorem zm5 (kb:Nat) (kt km:List UInt8) (ws:List UInt32) (ao:Option Addr) (n cap:Nat) (tw:List UInt8) (m:Nat) (w:World) (hk:Y3 w kb kt km ws) (hn:tw.length=n) (hc:n≤cap) (hn6:n≤1000000) (hm:m≤1000000) (hl:zr w ao (tw.map B)) :
  Calls Tryz.prog 307 #[.pointer (some ⟨kb,0,none⟩),.slice ao n cap,.int .i64 m] w fun e w'=>e=.returned (.agg (zQ (vY kt tw m)).toArray)∧Below w.heap.size w w':=by
 have HN:=znq hn
 have HL:=znq hl
 obtain ⟨wa,wc,hkb,_,_⟩:=hk.blk
 have HKB:=znq hkb
 have zeU:=znq hk.zeA
 have HKV:=znq (show (kt.map B).length=16 by rw [yf];exact hk.zeA)
 have hkb':=hkb.lt
 obtain ⟨r,hr⟩:∃ r,r=rOf kt:=⟨_,rfl⟩
 have HR:=znq (show rOf kt=r∧r < PP from ⟨hr.symm,by rw [hr];exact zke _⟩)
 obtain ⟨mb,hmb⟩:∃ x,x=z7 (wd (8*m)):=⟨_,rfl⟩
 have HMB:=znq (show z7 (wd (8*m))=mb∧mb.length=16 from ⟨hmb.symm,by rw [hmb];exact zZ _⟩)
 have HMV:=znq (show (mb.map B).length=16 by rw [yf];exact HMB.znr.2)
 obtain ⟨um,hum⟩:∃ x,x=wF m:=⟨_,rfl⟩
 have HBY:=znq (show zz (xf um 3)++zz (yp um 61)=mb∧True from ⟨by
  rw [hmb,hum,← zm4 hm,zhz],trivial⟩)
 obtain ⟨v1,p1,hA1⟩:∃ v1 p1,yO r 0 mb=(v1,p1):=⟨_,_,rfl⟩
 have HA1:=znq (And.intro hA1 trivial)
 have hs1:=jV r _ 0 mb (xc _) (by decide:0 < PP)
 rw [hA1] at hs1
 obtain ⟨v2,p2,hA2⟩:∃ v2 p2,yO r v1 (p1++tw)=(v2,p2):=⟨_,_,rfl⟩
 have HA2:=znq (And.intro hA2 trivial)
 have hs2:=jV r _ v1 (p1++tw) (xc _) hs1.1
 rw [hA2] at hs2
 have HS1:=znq (show v1 < PP∧True from ⟨hs1.1,trivial⟩)
 have HS2:=znq (show v2 < PP∧True from ⟨hs2.1,trivial⟩)
 have hp1:p1.length < 16:=hs1.2
 have hp2:p2.length < 16:=hs2.2
 have tL:=znq (show vY kt tw m=xo (Z7 (qq r v2 p2)) from by
  unfold vY
  rw [HR.znr.1,HMB.znr.1,hA1]
  simp only []
  rw [hA2])
 rw [tL.znr]
 have HS:=znq (St.start w)
 have hmax:(if (m:Int) < 0 then (0:Int) else (m:Int))=(m:Int):=by split <;> omega
 have zkY:(if (0:Int) < (m:Int) then (m:Int) else 0)=(m:Int):=by split <;> omega
 have hcv:IntKind.u64.wrap (m:Int)=(um.toNat:Int):=by rw [hum];exact zbb m
 clear hn hl hk hkb hr hmb hum hA1 hA2 hs1 hs2 tL
 go_enter Tryz.func307,Tryz.ntmps307
 go_wp2_with (refine ze 62 [L 0,L 0] _ rfl rfl zT rfl ?_)
 intro w1 hb hbel
 have HKB:=znq (HKB.znr.below hbel hkb')
 have HS:=znq (HS.znr.push hb hbel)
 have hlt1:=hb.lt
 clear hb hbel
 generalize hbb:w.heap.size=bb at *
 have HBB:=znq hbb
 clear hbb
 go_wp2_with fail
 refine (k5 (xf um 3) (yp um 61) _).mono ?_
 rintro e w2 ⟨rfl,hbel⟩
 rw [HBY.znr.1]
 have HKB:=znq (HKB.znr.below hbel HKB.znr.lt)
 have HS:=znq (HS.znr.later hbel)
 have h1:bb < w2.heap.size:=HS.znr.ne _ (xU (i:=0) rfl)
 clear hbel hmax zkY hcv
 go_wp2_with (refine ze 59 ((zf 16).map B) _ rfl rfl zj rfl ?_)
 intro w3 hb hbel
 have HKB:=znq (HKB.znr.below hbel HKB.znr.lt)
 have HS:=znq (HS.znr.push hb hbel)
 have hlt3:=hb.lt
 clear hb hbel
 generalize w2.heap.size=b2 at *
 go_wp2_with (refine (HS.znr.get 0 rfl).mM rfl rfl rfl (cs:=mb.map B) rfl zc (by rw [yf,zd]) HMV.znr (zg _) ?_)
 intro w4 hb ho
 have HKB:=znq (HKB.znr.only ho (by omega))
 have HS:=znq (HS.znr.change 0 hb ho (by omega) (by simp;omega))
 clear hb ho
 go_wp2_with (refine HKB.znr.rZ (off:=0) rfl rfl rfl zc (zh0 zeU.znr) HKV.znr ?_)
 refine (zge kt _ zeU.znr).mono ?_
 rintro e w5 ⟨sb,rfl,hsb,hb,hbel⟩
 rw [HR.znr.1] at hb
 have HSB:=znq hb
 have h2:b2 < w4.heap.size:=HS.znr.ne _ (xU (i:=0) rfl)
 have h3:bb < w4.heap.size:=HS.znr.ne _ (xU (i:=1) rfl)
 have HS:=znq (HS.znr.later hbel)
 have hn1:b2≠sb:=by omega
 have hn2:bb≠sb:=by omega
 have hn3:bb≤sb:=by omega
 clear hb hbel HKB
 go_wp2_with fail
 refine (QY sb r 0 (zf 16) [] 0 (some ⟨b2,0,none⟩) 16 16 mb _ HSB.znr (zd 16) rfl rfl (by omega) HR.znr.2 (by decide) HMB.znr.2 (by omega) (by omega) (zr.zdB (HS.znr.get 0 rfl) (by rw [bL,lX]) hn1)).mono ?_
 rintro e w6 ⟨⟨x6,rfl⟩,⟨r1,zdC,zcF,hb⟩,ho⟩
 rw [uo,HA1.znr.1] at zcF hb
 have HSB:=znq hb
 have HR1:=znq (And.intro zdC zcF)
 have HS:=znq (HS.znr.ziW ho hn3 (by simp;omega))
 clear hb zdC zcF ho
 go_wp2_with fail
 refine (QY sb r v1 r1 p1 p1.length ao n cap tw _ HSB.znr HR1.znr.1 HR1.znr.2 rfl hp1 HR.znr.2 HS1.znr.1 HN.znr hc hn6 (zr.far HL.znr (by rw [HBB.znr];exact HS.znr.bel) (by rw [HBB.znr];exact hn3))).mono ?_
 rintro e w7 ⟨⟨x7,rfl⟩,⟨r2,hr2l,zkZ,hb⟩,ho⟩
 rw [HA2.znr.1] at zkZ hb
 have HSB:=znq hb
 have HR2:=znq (And.intro hr2l zkZ)
 have HS:=znq (HS.znr.ziW ho hn3 (by simp;omega))
 clear hb hr2l zkZ ho
 go_wp2_with fail
 refine (Kx sb r v2 r2 p2 p2.length _ HSB.znr HR2.znr.1 HR2.znr.2 rfl hp2 HR.znr.2 HS2.znr.1).mono ?_
 rintro e w8 ⟨rfl,hbel⟩
 have HS:=znq (HS.znr.later hbel)
 clear hbel
 go_wp2_with (refine (HS.znr.get 1 rfl).mM rfl rfl rfl (cs:=zQ (xo (Z7 (qq r v2 p2)))) rfl zq rfl rfl (zX _) ?_)
 intro w9 hb ho
 have HE:=znq (zk HS.znr.bel ho (by omega))
 clear ho
 go_wp2
 refine hb.result rfl rfl rfl zq rfl ⟨rfl,?_⟩
 rw [HBB.znr]
 exact HE.znr
end Go.Proofs.YtamdifhibogdiaaGreatDoor
namespace Go.Proofs.YtamdifhibogdiaaGreatDoor
open RowKit Mem Ops Cells Oct Trn Blake pI Adi
attribute [local irreducible] zE zN zO zM yJ
theorem Ky (a k b l:UInt32) (w:World):Calls Tryz.prog 323 #[W a,W k,W b,W l] w fun e w'=>e=.returned (L (Qr a k b l))∧w=w':=by
 go_enter Tryz.func323,Tryz.ntmps323
 go_wp2
 go_ret
 exact ⟨rfl,rfl⟩
theorem zay:(Tryz.prog.info? 155).map (fun i=>(i.zero,i.size,i.bytes))=some (some (.int .u32 0),1,4):=by kernel_rfl
theorem zh3 (ao:Option Addr) (cap:Nat) (key:List UInt8) (w:World) (hk:key.length=1072) (hl:zr w ao (key.map B)) :
  Calls Tryz.prog 200 #[.slice ao 1072 cap] w fun e w'=>∃ b,e=.returned (.tuple #[.slice (some ⟨b,0,none⟩) 268 268,.int .i64 0])∧w.heap.size≤b∧Blk w' b ((Za key).map W) 155∧Below w.heap.size w w':=by
 have HK:=znq hk
 have HL:=znq hl
 have HS:=znq (St.start w)
 clear hk hl
 go_enter Tryz.func200,Tryz.ntmps200
 go_wp2_with (at_make;refine jJ 303 155 (.int .u32 0) 4 268 rfl rfl rfl rfl Tryz.underlying303 zay rfl rfl rfl (by omega) (by unfold maxLen;omega) ?_)
 intro w1 hb hbel
 have HS:=znq (HS.znr.push (show Blk w1 w.heap.size ((wh 268 (0:UInt32)).map W) 155 from hb) hbel)
 clear hb hbel
 generalize hbb:w.heap.size=bb at *
 have HBB:=znq hbb
 clear hbb
 go_wp2
 go_loopw [12] (fun c wr=>∃ (i:Nat) (ls:List UInt32),i≤268∧c=.int .i64 i∧Hid (yg (fun i=>yU key (4*i)) 268 i ls)∧Hid (St w bb wr [(bb,ls.map W,155)])) (fun c _=>268 - (intOf c).toNat)
 case atStart=>exact ⟨0,_,by omega,rfl,znq (yg.zero (by rw [List.length_replicate])),HS⟩
 case round =>
  clear HS
  obtain ⟨i,ls,hi,rfl,HF,HS⟩:=hrel
  by_cases hlt:i < 268
  ·obtain ⟨a4,ha4⟩:∃ a,a=4*i:=⟨_,rfl⟩
   have e4:4*(i:Int)=(a4:Int):=by omega
   have ha:a4≤10000:=by omega
   have HN:=znq (show yg (fun i=>yU key (4*i)) 268 (i+1) (ls.set i (yU key a4)) from by rw [ha4];exact HF.znr.step hlt)
   clear ha4
   go_wp2_with fail
   refine (kZ ao 1072 cap a4 key _ HK.znr (by omega) (by omega) (HL.znr.below (by rw [HBB.znr];exact HS.znr.bel))).mono ?_
   rintro e w2 ⟨rfl,hbel⟩
   have HS:=znq (HS.znr.later hbel)
   clear hbel
   go_wp2_with (refine (HS.znr.get 0 rfl).ry (i:=i) (v:=W (yU key a4)) rfl rfl rfl rfl yt rfl rfl (by rw [yf,HF.znr.1];exact hlt) ?_)
   intro w3 hb ho
   rw [xI] at hb
   have HS:=znq (HS.znr.change 0 hb ho (by omega) (by simp))
   clear hb ho
   go_wp2
   go_roundw
   case rel=>exact ⟨i+1,_,by omega,by go_num,HN,HS⟩
   case measure=>simp [intOf];omega
  ·obtain rfl:i=268:=by omega
   have HE:=znq (show ls=Za key∧True from ⟨HF.znr.all,trivial⟩)
   rw [HE.znr.1] at HS
   go_wp2
   go_ret2
   exact ⟨bb,rfl,by have:=HBB.znr;omega,HS.znr.get 0 rfl,by rw [HBB.znr];exact HS.znr.bel⟩
end Go.Proofs.YtamdifhibogdiaaGreatDoor

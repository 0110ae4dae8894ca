/-
  Texts of this claim, one behind the other.
-/
import Derived.Test.YtamdifhibogdiaaGreatDoorX1
import Derived.Test.YtamdifhibogdiaaGreatDoorX20
import Derived.Test.YtamdifhibogdiaaGreatDoorX10
import Derived.Test.YtamdifhibogdiaaGreatDoorX17
import Derived.Test.YtamdifhibogdiaaGreatDoorX5
import Derived.Test.YtamdifhibogdiaaGreatDoorX6
import Derived.Test.YtamdifhibogdiaaGreatDoorX16
import Derived.Laws.Append
import Derived.Laws.AppendOwn
import Derived.Lib.Hide
set_option linter.unusedVariables false
set_option linter.unusedSimpArgs false
set_option maxHeartbeats 16000000
set_option maxRecDepth 100000
open Int renaming tdiv_eq_ediv_of_nonneg→gy
open List renaming append_nil→bC,drop_eq_nil_of_le→Yx,eq_nil_of_length_eq_zero→uG,ext_getElem?→uA,getElem?_drop→dJ,getElem?_eq_none→qc,length_append→q8,length_drop→XQ,length_map→yf,length_replicate→bZ,length_take→Ku,mem_of_getElem?→xU,range→uf,take_of_length_le→Y2
open Nat renaming le_refl→xc,le_trans→uj,lt_or_ge→bg
namespace Go.Mem
open RowKit
theorem zr.zlA {w:World} {ao:Option Addr} {xs:List Value} {cap:Nat} (h:zr w ao xs) (hcap:xs.length≤cap) (a:Nat):zr w (yy ao cap a) (xs.drop a):=by
 intro j u hu
 rw [dJ] at hu
 obtain ⟨b,off,e,hc⟩:=h (a+j) u hu
 have hj:a+j < xs.length:=(List.getElem?_eq_some_iff.1 hu).1
 subst e
 unfold yy
 rw [if_neg (by omega)]
 exact ⟨b,off+a,by simp [Addr.add],by rw [Nat.add_assoc];exact hc⟩
end Go.Mem
namespace Go.Adi
open Ops Oct pI Trn Blake
def jl (ws:List UInt32) (b:List UInt8) (u p:Nat):List UInt64:=(uf 4).map fun q=>if q < p then zy (at64 (Zr ws b u) q) (JX ws b u q) else at64 (Zr ws b u) q
theorem kx (ws:List UInt32) (b:List UInt8) (u p:Nat):(jl ws b u p).length=4:=by simp [jl]
theorem ZW (ws:List UInt32) (b:List UInt8) (u p q:Nat) (h:q < 4):(jl ws b u p)[q]? = some (if q < p then zy (at64 (Zr ws b u) q) (JX ws b u q) else at64 (Zr ws b u) q):=by
 unfold jl
 rw [List.getElem?_map,List.getElem?_range h]
 rfl
theorem zky (ws:List UInt32) (b:List UInt8) (u:Nat):jl ws b u 0=Zr ws b u:=by
 apply uA
 intro q
 rcases bg q 4 with h | h
 ·rw [ZW ws b u 0 q h,if_neg (by omega),z9 (by rw [jW];exact h)]
 ·rw [qc (by rw [kx];exact h),qc (by rw [jW];exact h)]
theorem zkz (ws:List UInt32) (b:List UInt8) (u:Nat):jl ws b u 4=Zr ws b (u+1):=by
 rw [show Zr ws b (u+1)=(uf 4).map fun p=>zy (at64 (Zr ws b u) p) (JX ws b u p) from rfl]
 unfold jl
 apply List.map_congr_left
 intro q hq
 rw [if_pos (List.mem_range.1 hq)]
theorem zdl (ws:List UInt32) (b:List UInt8) (u:Nat) {p:Nat} (hp:p < 4):(jl ws b u p).set p (zy (at64 (Zr ws b u) p) (JX ws b u p))=jl ws b u (p+1):=by
 apply uA
 intro q
 rw [List.getElem?_set,kx]
 rcases bg q 4 with h | h
 ·rw [ZW ws b u (p+1) q h]
  by_cases e:p=q
  ·subst e;rw [if_pos rfl,if_pos h,if_pos (by omega)]
  ·rw [if_neg e,ZW ws b u p q h]
   by_cases h2:q < p
   ·rw [if_pos h2,if_pos (by omega)]
   ·rw [if_neg h2,if_neg (by omega)]
 ·rw [if_neg (by omega),qc (by rw [kx];exact h),qc (by rw [kx];exact h)]
def Y4 (s:List UInt64) (p:Nat):List UInt8:=(s.take p).flatMap zz++zf (32 - 8*p)
theorem YH {s:List UInt64} (hs:s.length=4) {p:Nat} (hp:p≤4):(Y4 s p).length=32:=by
 unfold Y4
 rw [q8,qy,Ku,zd,hs]
 omega
theorem zh4 {s:List UInt64} (hs:s.length=4) {p:Nat} {x:UInt64} (hp:p < 4) (hx:s[p]? = some x):splice (Y4 s p) (8*p) (zz x)=Y4 s (p+1):=by
 have hl:((s.take p).flatMap zz).length=8*p:=by rw [qy,Ku,hs];omega
 unfold splice Y4
 rw [List.take_append_of_le_length (by omega),Y2 (by omega),List.drop_append,Yx (by rw [zK];omega),List.nil_append,zK,hl,List.take_add_one,hx,List.flatMap_append]
 simp only [Option.toList,List.flatMap_cons,List.flatMap_nil,bC,List.append_assoc]
 congr 2
 unfold zf
 rw [List.drop_replicate]
 congr 1
 omega
end Go.Adi
namespace Go.Proofs.YtamdifhibogdiaaGreatDoor
open RowKit Mem Ops Cells Oct Trn Blake pI Adi
attribute [local irreducible] zE zN zO zM yJ
theorem zfg:Row Tryz.prog 415 4:=⟨by kernel_rfl,by kernel_rfl⟩
theorem zfh:Row Tryz.prog 416 4:=⟨by kernel_rfl,by kernel_rfl⟩
theorem zdm:(Tryz.prog.info? 415).map (·.zero)=some (some (.agg (([0,0,0,0]:List UInt64).map L).toArray)):=by kernel_rfl
theorem zdn:(Tryz.prog.info? 416).map (·.zero)=some (some (.agg (([0,0,0,0]:List UInt32).map W).toArray)):=by kernel_rfl
theorem zm6 (a b c d:UInt32):Tryz.prog.built 416 [(0,W a),(1,W b),(2,W c),(3,W d)]=some (([a,b,c,d]:List UInt32).map W).toArray:=by kernel_rfl
abbrev zgf (b4 b6 b7:Nat) (wa:Option Addr) (wc:Nat) (ao:Option Addr) (n c a:Nat) (us:Nat→Value):Act:={ tmps:=#[.slice wa 268 wc,.slice ao n c,us 2,us 3,.pointer (some ⟨b4,0,none⟩),us 5,.pointer (some ⟨b6,0,none⟩),.pointer (some ⟨b7,0,none⟩),.int .i64 a,us 9,us 10,us 11,us 12,us 13,us 14,us 15,us 16,us 17,us 18,us 19,us 20,us 21,us 22,us 23,us 24,us 25,us 26,us 27,us 28,us 29,us 30,us 31,us 32,us 33,us 34,us 35,us 36,us 37,us 38,us 39,us 40,us 41,us 42,us 43,us 44,us 45,us 46,us 47,us 48,us 49,us 50,us 51,us 52,us 53,us 54,us 55,us 56,us 57,us 58,us 59,us 60,us 61,us 62,us 63,us 64,us 65,us 66,us 67,us 68,us 69,us 70,us 71,us 72,us 73,us 74,us 75,us 76,us 77,us 78,us 79,us 80,us 81,us 82,us 83,us 84,us 85,us 86,us 87,us 88,us 89,us 90,us 91,us 92,us 93,us 94,us 95,us 96,us 97,us 98,us 99,us 100,us 101,us 102,us 103,us 104,us 105,us 106,us 107,us 108,us 109,us 110,us 111],defers:=[] }
def zgV (ws:List UInt32) (b:List UInt8) (wa:Option Addr) (wc:Nat) (ao:Option Addr) (n c bb:Nat) (w:World) (x:Act) (wr:World):Prop :=
 ∃ (us:Nat→Value) (b6 b7 a u:Nat),x=zgf bb b6 b7 wa wc ao n c a us∧bb < b6∧b6 < b7∧a≤n∧Hid (a=16*u)∧Hid (St w bb wr [(b7,(Zr ws b u).map L,415),(b6,(zf 32).map B,255),(bb,(zf 32).map B,255)])
theorem zgV.intro {ws:List UInt32} {b:List UInt8} {wa:Option Addr} {wc:Nat} {ao:Option Addr} {n c bb:Nat} {w:World} {x:Act} {wr:World} (b6 b7 a u:Nat) (hx:x=zgf bb b6 b7 wa wc ao n c a (fun i=>x.tmps.getD i undef)) (h1:bb < b6) (h2:b6 < b7) (h3:a≤n) (h4:a=16*u)
  (h5:St w bb wr [(b7,(Zr ws b u).map L,415),(b6,(zf 32).map B,255),(bb,(zf 32).map B,255)]):zgV ws b wa wc ao n c bb w x wr:=⟨_,b6,b7,a,u,hx,h1,h2,h3,h4,h5⟩
theorem zk0 (ws:List UInt32) (wa:Option Addr) (wc:Nat) (ao:Option Addr) (n cap:Nat) (b:List UInt8) (w:World) (hws:ws.length=268) (hwc:268≤wc) (hlw:zr w wa (ws.map W)) (hn:b.length=n) (zgW:n≤1024) (h16:n % 16=0) (hl:zr w ao (b.map B)) :
  Calls Tryz.prog 317 #[.slice wa 268 wc,.slice ao n cap] w fun e w'=>e=.returned (.tuple #[.agg ((nh ws b).map B).toArray,.int .i64 0])∧Below w.heap.size w w':=by
 have HN:=znq hn
 have HL:=znq hl
 have HWS:=znq hws
 have HLW:=znq hlw
 obtain ⟨U,hU⟩:∃ U,n=16*U:=⟨n / 16,by omega⟩
 have HU:=znq hU
 obtain ⟨U4,hU4⟩:∃ x,x=U*4:=⟨_,rfl⟩
 obtain ⟨U12,hU12⟩:∃ x,x=U4+12:=⟨_,rfl⟩
 have d1:decide ((n:Int) > 1024)=false:=by simp;omega
 have e1:(n:Int).tmod 16=0:=by rw [Int.tmod_eq_emod_of_nonneg (by omega)];omega
 have e1':(n:Int) % 16=0:=by omega
 have e2:(n:Int).tdiv 16=(U:Int):=by rw [gy (by omega)];omega
 have e2':(n:Int) / 16=(U:Int):=by omega
 have e3:(U:Int)*4=(U4:Int):=by omega
 have e4:(U4:Int)+12=(U12:Int):=by omega
 have d2:decide ((268:Int) < (U12:Int))=false:=by simp;omega
 have hU12b:U12≤268:=by omega
 have HS:=znq (St.start w)
 clear hn hl hws hlw hU hU4 hU12 h16
 go_enter Tryz.func317,Tryz.ntmps317
 go_wp2_with (refine ze 255 ((zf 32).map B) _ rfl rfl qA rfl ?_)
 intro w1 hb hbel
 have HS:=znq (HS.znr.push hb hbel)
 have hlt1:=hb.lt
 clear hb hbel
 generalize hbb:w.heap.size=bb at *
 have HBB:=znq hbb
 clear hbb
 go_wp2_with fail
 refine yd 0 (zgV ws b wa wc ao n cap bb w) (fun x _=>n - (intOf (x.tmps.getD 8 undef)).toNat) rfl ?_ ?_
 ·simp only [q9]
  go_wp2_with (refine ze 255 ((zf 32).map B) _ rfl rfl qA rfl ?_)
  intro w2 hb hbel
  have HS:=znq (HS.znr.push hb hbel)
  have hlt2:=hb.lt
  clear hb hbel
  generalize w1.heap.size=b6 at *
  go_wp2_with (refine ze 415 (([0,0,0,0]:List UInt64).map L) _ rfl rfl zdm rfl ?_)
  intro w3 hb hbel
  have HS:=znq (HS.znr.push hb hbel)
  clear hb hbel
  generalize w2.heap.size=b7 at *
  go_wp2
  exact zgV.intro b6 b7 0 0 rfl hlt1 hlt2 (by omega) rfl HS.znr
 ·clear HS e1 e1' e2 e2' e3 e4 d1 d2
  rintro x wr ⟨us,b6,b7,a,u,rfl,h46,h67,han,HA,HS⟩
  by_cases hlt:a < n
  ·have d0:decide ((a:Int) < (n:Int))=true:=by simp;omega
   obtain ⟨x4,hx4⟩:∃ x,x=a+4:=⟨_,rfl⟩
   obtain ⟨x8,hx8⟩:∃ x,x=a+8:=⟨_,rfl⟩
   obtain ⟨x12,hx12⟩:∃ x,x=a+12:=⟨_,rfl⟩
   obtain ⟨a',ha'⟩:∃ x,x=a+16:=⟨_,rfl⟩
   have f4:(a:Int)+4=(x4:Int):=by omega
   have f8:(a:Int)+8=(x8:Int):=by omega
   have f12:(a:Int)+12=(x12:Int):=by omega
   have f16:(a:Int)+16=(a':Int):=by omega
   have hxb:x4≤10000∧x8≤10000∧x12≤10000:=by omega
   have hub:u≤63:=by have:=HA.znr;omega
   have HAX:=znq (show a'=16*(u+1)∧a'≤n from by have:=HA.znr;have:=HU.znr;omega)
   obtain ⟨m0,hm0⟩:∃ x,x=yU b a:=⟨_,rfl⟩
   obtain ⟨m1,hm1⟩:∃ x,x=yU b x4:=⟨_,rfl⟩
   obtain ⟨m2,hm2⟩:∃ x,x=yU b x8:=⟨_,rfl⟩
   obtain ⟨m3,hm3⟩:∃ x,x=yU b x12:=⟨_,rfl⟩
   have HM:=znq (show (yU b a=m0∧yU b x4=m1∧yU b x8=m2∧yU b x12=m3)∧(x4=a+4∧x8=a+8∧x12=a+12) from ⟨⟨hm0.symm,hm1.symm,hm2.symm,hm3.symm⟩,hx4,hx8,hx12⟩)
   clear hm0 hm1 hm2 hm3 hx4 hx8 hx12 ha'
   have han1:a≤10000:=by omega
   obtain ⟨hxb4,hxb8,hxb12⟩:=hxb
   have nT:=znq (show ∀ wz,St w bb wz [(b7,(Zr ws b u).map L,415),(b6,(zf 32).map B,255),(bb,(zf 32).map B,255)]→Below w.heap.size w wz from fun wz h=>by rw [HBB.znr];exact h.bel)
   go_wp2_with fail
   refine (kZ ao n cap a b _ HN.znr (by omega) (by omega) (HL.znr.below (nT.znr _ HS.znr))).mono ?_
   rintro e w4 ⟨rfl,hbel⟩
   rw [HM.znr.1.1]
   have HS:=znq (HS.znr.later hbel)
   clear hbel
   go_wp2_with fail
   refine (kZ ao n cap x4 b _ HN.znr (by omega) (by omega) (HL.znr.below (nT.znr _ HS.znr))).mono ?_
   rintro e w5 ⟨rfl,hbel⟩
   rw [HM.znr.1.2.1]
   have HS:=znq (HS.znr.later hbel)
   clear hbel
   go_wp2_with fail
   refine (kZ ao n cap x8 b _ HN.znr (by omega) (by omega) (HL.znr.below (nT.znr _ HS.znr))).mono ?_
   rintro e w6 ⟨rfl,hbel⟩
   rw [HM.znr.1.2.2.1]
   have HS:=znq (HS.znr.later hbel)
   clear hbel
   go_wp2_with fail
   refine (kZ ao n cap x12 b _ HN.znr (by omega) (by omega) (HL.znr.below (nT.znr _ HS.znr))).mono ?_
   rintro e w7 ⟨rfl,hbel⟩
   rw [HM.znr.1.2.2.2]
   have HS:=znq (HS.znr.later hbel)
   have g1:b7 < w7.heap.size:=HS.znr.ne _ (xU (i:=0) rfl)
   clear hbel
   have hbu:=zm6 m0 m1 m2 m3
   go_wp2_with (refine ze 416 (([0,0,0,0]:List UInt32).map W) _ rfl rfl zdn rfl ?_)
   intro w8 hb hbel
   have HS:=znq (HS.znr.push hb hbel)
   have hlt8:=hb.lt
   clear hb hbel
   generalize w7.heap.size=b9 at *
   go_wp2_with (refine (HS.znr.get 0 rfl).mM rfl rfl rfl (cs:=([m0,m1,m2,m3]:List UInt32).map W) rfl zfh rfl rfl (yT _) ?_)
   intro w9 hb ho
   have HS:=znq (HS.znr.change 0 hb ho (by omega) (by simp;omega))
   clear hb ho hbu f4 f8 f12
   go_wp2
   go_loopw [56] (fun c wr=>∃ (p:Nat),p≤4∧c=.int .i64 p∧Hid (St w bb wr [(b9,([m0,m1,m2,m3]:List UInt32).map W,416),(b7,(jl ws b u p).map L,415),(b6,(zf 32).map B,255),(bb,(zf 32).map B,255)])) (fun c _=>4 - (intOf c).toNat)
   case atStart=>exact ⟨0,by omega,rfl,znq (by rw [zky];exact HS.znr)⟩
   case round =>
    clear HS
    obtain ⟨p,hp,rfl,HS⟩:=hrel
    by_cases hlp:p < 4
    ·obtain ⟨u4,hu4⟩:∃ x,x=u*4:=⟨_,rfl⟩
     obtain ⟨p4,hp4⟩:∃ x,x=p*4:=⟨_,rfl⟩
     obtain ⟨z,hz⟩:∃ x,x=u4+p4:=⟨_,rfl⟩
     have e2:(a:Int).tdiv 16=(u:Int):=by have:=HA.znr;rw [gy (by omega)];omega
     have e2':(a:Int) / 16=(u:Int):=by have:=HA.znr;omega
     have e3:(u:Int)*4=(u4:Int):=by omega
     have e4:(p:Int)*4=(p4:Int):=by omega
     have e5:(u4:Int)+(p4:Int)=(z:Int):=by omega
     have hz1:z+4≤268:=by omega
     have hz2:z≤268:=by omega
     have HZ:=znq (show z=4*u+4*p∧True from ⟨by omega,trivial⟩)
     clear hu4 hp4 hz
     obtain ⟨ln,hln⟩:∃ x,x=268 - z:=⟨_,rfl⟩
     obtain ⟨cn,hcn⟩:∃ x,x=wc - z:=⟨_,rfl⟩
     have hln4:4≤ln:=by omega
     have HLZ:=znq (show zr w (yy wa wc z) ((ws.map W).drop z) from HLW.znr.zlA (by rw [yf,HWS.znr];exact hwc) z)
     obtain ⟨sa,hsa⟩:∃ x,x=yy wa wc z:=⟨_,rfl⟩
     rw [← hsa] at HLZ
     obtain ⟨c0,hc0⟩:∃ x,x=yR ws z:=⟨_,rfl⟩
     obtain ⟨c1,hc1⟩:∃ x,x=yR ws (z+1):=⟨_,rfl⟩
     obtain ⟨c2,hc2⟩:∃ x,x=yR ws (z+2):=⟨_,rfl⟩
     obtain ⟨c3,hc3⟩:∃ x,x=yR ws (z+3):=⟨_,rfl⟩
     have hgd:∀ j,j < 4→((ws.map W).drop z)[j]? = some (W (yR ws (z+j))):=fun j hj=>by
      rw [dJ]
      exact kz (qO (l:=ws) (i:=z+j) (by rw [HWS.znr];omega))
     obtain ⟨sb,so,hsb,hbw,hcell⟩:=HLZ.znr.at (by intro e;have:=hgd 0 (by omega);rw [e] at this;cases this)
     have hsl:∀ w':World,(Instr.slice 303 (.slice wa 268 wc) (some (.int .i64 z)) none none).run Tryz.prog w'=.ok (.slice (some ⟨sb,so,none⟩) ln cn) w':=fun w'=>by
      have:=yv (P:=Tryz.prog) w' 303 155 1 Tryz.underlying303 yt wa 268 wc z z rfl hz2
      rw [this,← hsa,hsb,hln,hcn]
     have HUN:=znq (show zy (Qr m0 c0 m2 c2) (Qr m1 c1 m3 c3)=JX ws b u p∧True from ⟨by
      unfold JX
      have h1:=HM.znr.1
      have h2:=HM.znr.2
      have h3:=HA.znr
      have h4:=HZ.znr.1
      rw [hc0,hc1,hc2,hc3,← h1.1,← h1.2.1,← h1.2.2.1,← h1.2.2.2,h2.1,h2.2.1,h2.2.2,h3,h4],trivial⟩)
     have HSG:=znq (show (jl ws b u p)[p]? = some (at64 (Zr ws b u) p) from by rw [ZW ws b u p p hlp,if_neg (by omega)])
     have HSN:=znq (show (jl ws b u p).set p (zy (at64 (Zr ws b u) p) (zy (Qr m0 c0 m2 c2) (Qr m1 c1 m3 c3)))=jl ws b u (p+1)∧(jl ws b u p).length=4 from ⟨by rw [HUN.znr.1];exact zdl ws b u hlp,kx _ _ _ _⟩)
     have HCE:=znq (show (∀ (wz:World),Below w.heap.size w wz→wz.cell? ⟨sb,so,none⟩=some (W c0)∧wz.cell? ⟨sb,so+1,none⟩=some (W c1)∧wz.cell? ⟨sb,so+2,none⟩=some (W c2)∧wz.cell? ⟨sb,so+3,none⟩=some (W c3)) from fun wz hbz=>by
      have hq:=fun j (hj:j < 4)=>(hbz.cell (p:=⟨sb,so+j,none⟩) hbw).trans (hcell j _ (hgd j hj))
      exact ⟨by rw [hc0];exact hq 0 (by omega),by rw [hc1];exact hq 1 (by omega),by rw [hc2];exact hq 2 (by omega),by rw [hc3];exact hq 3 (by omega)⟩)
     clear hln hcn hsa hsb hcell hgd hc0 hc1 hc2 hc3 hbw
     go_wp2_with fail
     have HSD:=HS.znr.drew
     have hk:∀ (x:zG wr.drew),Below w.heap.size w x.val:=fun x=>by have:=(HSD.later x.later).bel;rw [HBB.znr];exact this
     have k0:=fun (x:zG wr.drew)=>(HCE.znr _ (hk x)).1
     have k1:=fun (x:zG wr.drew)=>(HCE.znr _ (hk x)).2.1
     have k2:=fun (x:zG wr.drew)=>(HCE.znr _ (hk x)).2.2.1
     have k3:=fun (x:zG wr.drew)=>(HCE.znr _ (hk x)).2.2.2
     have q0:=fun (x:zG wr.drew)=>((HSD.later x.later).get 0 rfl).cell 0 (W m0) rfl
     have q1:=fun (x:zG wr.drew)=>((HSD.later x.later).get 0 rfl).cell 1 (W m1) rfl
     have q2:=fun (x:zG wr.drew)=>((HSD.later x.later).get 0 rfl).cell 2 (W m2) rfl
     have q3:=fun (x:zG wr.drew)=>((HSD.later x.later).get 0 rfl).cell 3 (W m3) rfl
     have qs:=fun (x:zG wr.drew)=>((HSD.later x.later).get 1 rfl).cell p _ (yz HSG.znr)
     clear HSD hk
     refine zn [0,1,2,3,4,5,6,7,8,9,10,11,12,14,15,16,17,18,19,20,21,22,23,13,24,25,26,27,28] (by kernel_rfl) (by kernel_rfl) ?_
     rintro w12 rfl
     refine mqR ?_
     clear k0 k1 k2 k3 q0 q1 q2 q3 qs
     have HS:=znq HS.znr.drew
     refine zi rfl rfl (by rfl) (fun K hK=>?_)
     go_simp
     refine (Ky m0 c0 m2 c2 _).mono ?_
     rintro e w13 ⟨rfl,rfl⟩
     go_simp
     refine hK _ _ (zW.refl _) ?_
     clear hK K
     refine zi rfl rfl (by rfl) (fun K hK=>?_)
     go_simp
     refine (Ky m1 c1 m3 c3 _).mono ?_
     rintro e w13 ⟨rfl,rfl⟩
     go_simp
     refine hK _ _ (zW.refl _) ?_
     clear hK K
     refine mqR ?_
     refine zp rfl rfl (by rfl) (fun K hK=>?_)
     refine (HS.znr.get 1 rfl).nO (i:=p) (v:=L (zy (at64 (Zr ws b u) p) (zy (Qr m0 c0 m2 c2) (Qr m1 c1 m3 c3)))) rfl rfl rfl zR rfl rfl (by rw [yf,HSN.znr.2];exact hlp) (fun w13 hb ho=>hK _ _ ?_)
     clear hK K
     rw [y7,HSN.znr.1] at hb
     have HS:=znq (HS.znr.change 1 hb ho (by omega) (by simp;omega))
     clear hb ho
     go_simp
     refine zo ?_
     go_wp2
     go_roundw
     case rel=>exact ⟨p+1,by omega,by go_num,HS⟩
     case measure=>simp [intOf];omega
    ·obtain rfl:p=4:=by omega
     rw [zkz] at HS
     go_wp2
     refine wp_goto ⟨rfl,zgV.intro b6 b7 a' (u+1) rfl h46 h67 HAX.znr.2 HAX.znr.1 HS.znr.tail,?_⟩
     have:=HAX.znr
     simp [intOf];omega
  ·have d0:decide ((a:Int) < (n:Int))=false:=by simp;omega
   obtain ⟨S,hS⟩:∃ x,x=Zr ws b u:=⟨_,rfl⟩
   have HSS:=znq (show S.length=4∧nh ws b=Y4 S 4 from ⟨by rw [hS];exact jW _ _ _,by
    have h1:=HA.znr
    have h2:=HU.znr
    unfold nh Y4
    rw [HN.znr,show n / 16=u by omega,← hS,Y2 (by rw [hS,jW];exact xc _)]
    show _=_++zf 0
    rw [show zf 0=[] from rfl,bC]⟩)
   rw [← hS] at HS
   clear hS
   have HSV:=znq (show (S.map L).length=4 by rw [yf];exact HSS.znr.1)
   have HZ:=znq (show Y4 S 0=zf 32∧True from ⟨rfl,trivial⟩)
   rw [← HZ.znr.1] at HS
   go_wp2_with (refine (HS.znr.get 0 rfl).mP rfl rfl rfl zfg HSV.znr ?_)
   go_wp2
   go_loopw [99] (fun c wr=>∃ (p:Nat),p≤4∧c=.int .i64 p∧Hid (St w bb wr [(b7,S.map L,415),(b6,(Y4 S p).map B,255),(bb,(Y4 S 0).map B,255)])) (fun c _=>4 - (intOf c).toNat)
   case atStart=>exact ⟨0,by omega,rfl,HS⟩
   case round =>
    clear HS
    obtain ⟨p,hp,rfl,HS⟩:=hrel
    by_cases hlp:p < 4
    ·have hix:S[p]? = some (at64 S p):=z9 (by rw [HSS.znr.1];exact hlp)
     have zlB:(S.map L).toArray[p]? = some (L (at64 S p)):=by rw [List.getElem?_toArray];exact yz hix
     obtain ⟨x,hx⟩:∃ x,x=at64 S p:=⟨_,rfl⟩
     rw [← hx] at hix zlB
     have hrun:=fun (w':World)=>qF (P:=Tryz.prog) w' 415 60 4 (S.map L).toArray .i64 p (L x) Tryz.underlying415 (by kernel_rfl) zR zlB hlp
     have HST:=znq (show splice (Y4 S p) (8*p) (zz x)=Y4 S (p+1)∧(Y4 S p).length=32 from ⟨zh4 HSS.znr.1 hlp hix,YH HSS.znr.1 (by omega)⟩)
     have HPL:=znq (show ((zz x).map B).length=8 by rw [yf,zK])
     obtain ⟨p8,hp8⟩:∃ y,y=8*p:=⟨_,rfl⟩
     have e8:8*(p:Int)=(p8:Int):=by omega
     rw [← hp8] at HST
     have hp24:p8≤24:=by omega
     clear hix zlB hx hp8
     go_wp2_with fail
     refine (kH x _).mono ?_
     rintro e w4 ⟨rfl,hbel⟩
     have HS:=znq (HS.znr.later hbel)
     have g1:b7 < w4.heap.size:=HS.znr.ne _ (xU (i:=0) rfl)
     clear hbel hrun
     go_wp2_with (refine ze 127 ((zf 8).map B) _ rfl rfl vJ rfl ?_)
     intro w5 hb hbel
     have HS:=znq (HS.znr.push hb hbel)
     have zcO:=hb.lt
     clear hb hbel
     generalize w4.heap.size=b9 at *
     go_wp2_with (refine (HS.znr.get 0 rfl).mM rfl rfl rfl (cs:=(zz x).map B) rfl kM (by rw [yf,zd]) HPL.znr (zg _) ?_)
     intro w6 hb ho
     have HS:=znq (HS.znr.change 0 hb ho (by omega) (by simp;omega))
     clear hb ho
     have hs1:=fun (w':World)=>yY (P:=Tryz.prog) w' 255 5 32 Tryz.underlying255 zl b6 0 p8 p8 rfl (by omega)
     go_wp2_with fail
     refine zn [0,1,2,3,4] (by kernel_rfl) (by kernel_rfl) ?_
     rintro w7 rfl
     refine mqR ?_
     clear hs1
     have HS:=znq HS.znr.drew
     refine zp rfl rfl (by rfl) (fun K hK=>?_)
     refine (HS.znr.get 2 rfl).rC p8 ((zz x).map B) rfl rfl rfl Tryz.underlying22 zl (fun _=>by simp) (HS.znr.get 0 rfl).lies (by rw [HPL.znr];exact (Nat.min_eq_left (by omega)).symm) (by rw [HPL.znr,yf,HST.znr.2];omega) (zg _) (fun w8 hb ho=>hK _ _ ?_)
     clear hK K
     rw [xV,HST.znr.1] at hb
     have HS:=znq (HS.znr.change 2 hb ho (by omega) (by simp;omega))
     clear hb ho
     go_simp
     refine zo ?_
     go_wp2
     go_roundw
     case rel=>exact ⟨p+1,by omega,by go_num,HS.znr.tail⟩
     case measure=>simp [intOf];omega
    ·obtain rfl:p=4:=by omega
     have HOV:=znq (show ((Y4 S 4).map B).length=32 by rw [yf];exact YH HSS.znr.1 (by omega))
     have HRE:=znq (show nh ws b=Y4 S 4∧True from ⟨HSS.znr.2,trivial⟩)
     go_wp2_with (first | (refine (HS.znr.get 1 rfl).mP rfl rfl rfl yP HOV.znr ?_) | (refine (HS.znr.get 2 rfl).mM rfl rfl rfl (cs:=(Y4 S 4).map B) rfl yP (by rw [yf];exact YH HSS.znr.1 (by omega)) HOV.znr (zg _) ?_))
     intro w8 hb ho
     have HE:=znq (zk HS.znr.bel ho (by omega))
     clear ho
     go_wp2
     try rw [Exit.nZ]
     refine hb.zaN (v:=.int .i64 0) rfl rfl rfl rfl yP HOV.znr ⟨by rw [HRE.znr.1],?_⟩
     rw [HBB.znr]
     exact HE.znr
end Go.Proofs.YtamdifhibogdiaaGreatDoor
namespace Go.Adi
open Ops Oct pI
theorem Vg (ws:List UInt32) (r v:Nat) (p:List UInt8):qz ws r v p []=(v,p):=by unfold qz;simp
theorem Kz {ws:List UInt32} {r v:Nat} {p d:List UInt8} (h:d.length≠0):qz ws r v p d=qz ws r (yO r v (p++nh ws (d.take 1024))).1 (yO r v (p++nh ws (d.take 1024))).2 (d.drop 1024):=by
 conv=>lhs;unfold qz
 rw [dif_neg h]
theorem KA (ws:List UInt32) (r:Nat):∀ (n v:Nat) (p d:List UInt8),d.length≤n→v < PP→p.length < 16→(qz ws r v p d).1 < PP∧(qz ws r v p d).2.length < 16
 | n,v,p,d,h,hv,hp=>by
  by_cases h0:d.length=0
  ·rw [uG h0,Vg];exact ⟨hv,hp⟩
  ·rw [Kz h0]
   have h1:=jV r _ v (p++nh ws (d.take 1024)) (xc _) hv
   match n,h with
   | 0,h=>omega
   | n+1,h=>exact KA ws r n _ _ _ (by rw [XQ];omega) h1.1 h1.2
end Go.Adi
namespace Go.Proofs.YtamdifhibogdiaaGreatDoor
open RowKit Mem Ops Cells Oct Trn Blake pI Adi
attribute [local irreducible] zE zN zO zM yJ
structure EnvA (w:World) (b2 b5 kb sb:Nat) (kt km:List UInt8) (ws:List UInt32):Prop where
 k:Blk w b2 [.pointer (some ⟨kb,0,none⟩)] 257
 s:Blk w b5 [.pointer (some ⟨sb,0,none⟩)] 404
 key:Y3 w kb kt km ws
theorem Y3.far {w0 w:World} {kb sb:Nat} {kt km:List UInt8} {ws:List UInt32} (h:Y3 w0 kb kt km ws) (hb:Below w0.heap.size w0 w) (hsb:w0.heap.size≤sb):∀ w',zI sb w w'→Y3 w' kb kt km ws:=by
 intro w' ho
 obtain ⟨wa,wc,h1,h2,h3⟩:=h.blk
 have hlt:=h1.lt
 exact ⟨⟨wa,wc,((h1.below hb hlt).pR ho (by omega)),zr.far h2 hb hsb w' ho,h3⟩,h.zeA,h.zeT,h.zcT⟩
theorem zh5 (b2 b5 kb sb r v k:Nat) (kt km:List UInt8) (ws:List UInt32) (rest p:List UInt8) (ao:Option Addr) (n cap:Nat) (d:List UInt8) (w:World) (hE:∀ w',zI sb w w'→EnvA w' b2 b5 kb sb kt km ws) (hb:Blk w sb (qe r v rest k) 413) (hrl:rest.length=16) (hp:rest.take k=p) (hk:p.length=k) (sQ:k < 16) (hr:r < PP) (hv:v < PP)
  (hn:d.length=n) (zgW:n≤1024) (h16:n % 16=0) (hl:zr w ao (d.map B)) :
  Calls Tryz.prog 316 #[.slice ao n cap,.pointer (some ⟨b2,0,none⟩),.pointer (some ⟨b5,0,none⟩)] w fun e w'=>(∃ x,e=.returned x)∧(∃ rest',rest'.length=16∧rest'.take (yO r v (p++nh ws d)).2.length=(yO r v (p++nh ws d)).2∧Blk w' sb (qe r (yO r v (p++nh ws d)).1 rest' (yO r v (p++nh ws d)).2.length) 413)∧zI sb w w':=by
 have hE0:=hE w (zI.refl _ _)
 obtain ⟨wa,wc,hkb,hlw,hwc⟩:=hE0.key.blk
 have hc2:=hE0.k.cell 0 _ rfl
 have hck:=hkb.cell 32 _ (zh2 hE0.key.zeA hE0.key.zeT)
 have HWS:=znq hE0.key.zcT
 have HLW:=znq hlw
 have HE:=znq hE
 have HSB:=znq hb
 have HO:=znq (zI.refl sb w)
 have HR:=znq hr
 have HV:=znq hv
 have HN:=znq hn
 have HL:=znq hl
 have HRP:=znq (show rest.length=16∧rest.take k=p∧p.length=k from ⟨hrl,hp,hk⟩)
 have hsb:=hb.lt
 obtain ⟨hh,hhh⟩:∃ x,x=nh ws d:=⟨_,rfl⟩
 have HH:=znq (show nh ws d=hh∧hh.length=32 from ⟨hhh.symm,by rw [hhh];exact zhl _ _⟩)
 have HHV:=znq (show (hh.map B).length=32 by rw [yf];exact HH.znr.2)
 rw [← hhh]
 clear hb hr hv hn hl hrl hp hk hE hE0 hkb hlw hhh
 go_enter Tryz.func316,Tryz.ntmps316
 go_wp2_with fail
 refine (zk0 ws wa wc ao n cap d _ HWS.znr hwc HLW.znr HN.znr zgW h16 HL.znr).mono ?_
 rintro e w1 ⟨rfl,hbel⟩
 rw [HH.znr.1]
 have HSB:=znq (HSB.znr.below hbel hsb)
 have HO:=znq (HO.znr.trans (zI.of_below hbel))
 have hsb1:=HSB.znr.lt
 have hz1:=hbel.size
 clear hbel hc2 hck
 go_wp2_with (refine ze 255 ((zf 32).map B) _ rfl rfl qA rfl ?_)
 intro w2 hb hbel
 have HX:=znq hb
 have HSB:=znq (HSB.znr.below hbel hsb1)
 have HO:=znq (HO.znr.trans (zI.of_below hbel))
 clear hb hbel
 generalize hb1:w1.heap.size=b1 at *
 clear hb1
 go_wp2_with (refine HX.znr.mM rfl rfl rfl (cs:=hh.map B) rfl yP (by rw [yf,zd]) HHV.znr (zg _) ?_)
 intro w3 hb ho
 have HX:=znq hb
 have HSB:=znq (HSB.znr.only ho (by omega))
 have HO:=znq (HO.znr.other ho hz1)
 clear hb ho
 have hc5:=fun (x:xR (fun u v=>Below u.heap.size u v) w3.drew)=>(HE.znr x.val ((HO.znr.trans (zI.of_below (Below.refl _ _).drew)).trans (zI.of_below x.2))).s.cell 0 _ rfl
 go_wp2_with fail
 refine kW (fun u v=>Below u.heap.size u v) [2] [(0,1),(1,2),(2,0)] (fun a=>Below.refl _ a) (fun _ _ _ h1 h2=>h1.trans (h2.mono h1.size)) (by kernel_rfl) (by kernel_rfl) ?_
 rintro w4 rfl
 refine mqN ?_
 clear hc5
 have HX:=znq HX.znr.drew
 have HSB:=znq HSB.znr.drew
 have HO:=znq HO.znr.drew
 refine yS rfl (by rfl) (fun K hK=>?_)
 go_simp
 refine (QY sb r v rest p k (some ⟨b1,0,none⟩) 32 32 hh _ HSB.znr HRP.znr.1 HRP.znr.2.1 HRP.znr.2.2 sQ HR.znr HV.znr HH.znr.2 (by omega) (by omega) (zr.zdB HX.znr (by rw [List.drop_zero,List.take_length]) (by omega))).mono ?_
 rintro e w5 ⟨⟨x5,rfl⟩,hres,ho⟩
 have tL:=znq hres
 have HO:=znq (HO.znr.trans ho)
 clear hres ho
 go_simp
 refine hK _ _ (fun h=>by cases h) ?_
 clear hK K
 refine jA ?_
 go_wp2
 go_end0
 exact ⟨⟨_,rfl⟩,tL.znr,HO.znr⟩
abbrev zaz (sl f:Value) (us:Nat→Value):Act:={ tmps:=#[sl,f,us 2,us 3,us 4,us 5,us 6,us 7,us 8,us 9,us 10,us 11,us 12,us 13,us 14,us 15,us 16,us 17,us 18],defers:=[] }
def zgX (sb r:Nat) (ws:List UInt32) (f:Value) (fin:Nat×List UInt8) (w:World) (x:Act) (wr:World):Prop :=
 ∃ (us:Nat→Value) (ao:Option Addr) (n c:Nat) (d:List UInt8) (v:Nat) (rest p:List UInt8) (k:Nat),x=zaz (.slice ao n c) f us∧n≤c∧n % 16=0∧k < 16∧Hid (d.length=n)∧Hid (∀ w',zI sb w w'→zr w' ao (d.map B)) ∧
  Hid (rest.length=16∧rest.take k=p∧p.length=k)∧Hid (v < PP)∧Hid (qz ws r v p d=fin∧True)∧Hid (Blk wr sb (qe r v rest k) 413)∧Hid (zI sb w wr)
theorem zgX.intro {sb r:Nat} {ws:List UInt32} {f:Value} {fin:Nat×List UInt8} {w:World} {x:Act} {wr:World} (ao:Option Addr) (n c:Nat) (d:List UInt8) (v:Nat) (rest p:List UInt8) (k:Nat) (hx:x=zaz (.slice ao n c) f (fun i=>x.tmps.getD i undef)) (h1:n≤c) (h2:n % 16=0) (h3:k < 16) (h4:d.length=n)
  (h5:∀ w',zI sb w w'→zr w' ao (d.map B)) (h6:rest.length=16∧rest.take k=p∧p.length=k) (h7:v < PP) (h8:qz ws r v p d=fin) (h9:Blk wr sb (qe r v rest k) 413) (h10:zI sb w wr):zgX sb r ws f fin w x wr :=
 ⟨_,ao,n,c,d,v,rest,p,k,hx,h1,h2,h3,h4,h5,h6,h7,⟨h8,trivial⟩,h9,h10⟩
def zk1 (b2 b5:Nat):Value:=.func (.func 316) #[] #[.pointer (some ⟨b2,0,none⟩),.pointer (some ⟨b5,0,none⟩)]
theorem zh6 (b2 b5 kb sb r v k:Nat) (kt km:List UInt8) (ws:List UInt32) (rest p:List UInt8) (ao:Option Addr) (n cap:Nat) (d:List UInt8) (w:World) (hE:∀ w',zI sb w w'→EnvA w' b2 b5 kb sb kt km ws) (hb:Blk w sb (qe r v rest k) 413) (hrl:rest.length=16) (hp:rest.take k=p) (hk:p.length=k) (sQ:k < 16) (hr:r < PP) (hv:v < PP)
  (hn:d.length=n) (hc:n≤cap) (h16:n % 16=0) (hl:∀ w',zI sb w w'→zr w' ao (d.map B)) :
  Calls Tryz.prog 315 #[.slice ao n cap,zk1 b2 b5] w fun e w'=>(∃ x,e=.returned x)∧(∃ rest',rest'.length=16∧rest'.take (qz ws r v p d).2.length=(qz ws r v p d).2∧Blk w' sb (qe r (qz ws r v p d).1 rest' (qz ws r v p d).2.length) 413)∧zI sb w w':=by
 have HE:=znq hE
 have HSB:=znq hb
 have HO:=znq (zI.refl sb w)
 have HR:=znq hr
 have HV:=znq hv
 have HN:=znq hn
 have HL:=znq hl
 have HRP:=znq (show rest.length=16∧rest.take k=p∧p.length=k from ⟨hrl,hp,hk⟩)
 obtain ⟨fin,hfin⟩:∃ f,f=qz ws r v p d:=⟨_,rfl⟩
 have HF:=znq (And.intro hfin.symm trivial)
 rw [← hfin]
 clear hb hr hv hn hl hrl hp hk hE hfin
 go_enter Tryz.func315,Tryz.ntmps315
 go_wp2_with fail
 refine yd 0 (zgX sb r ws (zk1 b2 b5) fin w) (fun x _=>X9 (x.tmps.getD 0 undef)) rfl ?_ ?_
 ·simp only [q9]
  exact zgX.intro ao n cap d v rest p k rfl hc h16 sQ HN.znr HL.znr HRP.znr HV.znr HF.znr.1 HSB.znr HO.znr
 ·clear HSB HO HV HN HL HRP HF hc h16 sQ
  rintro x wr ⟨us,ao,n,c,d,v,rest,p,k,rfl,hc,h16,sQ,HN,HL,HRP,HV,HF,HSB,HO⟩
  simp only [zaz]
  by_cases h0:n=0
  ·subst h0
   have HE:=znq (show fin=(v,p) from by rw [← HF.znr.1,uG HN.znr,Vg])
   go_wp2
   try rw [Exit.nZ]
   refine bodyPost_ret (results_none rfl _ _ _) rfl ?_
   refine ⟨⟨_,rfl⟩,⟨rest,HRP.znr.1,?_,?_⟩,HO.znr⟩
   ·rw [HE.znr]
    show rest.take p.length=p
    rw [HRP.znr.2.2]
    exact HRP.znr.2.1
   ·rw [HE.znr]
    show Blk wr sb (qe r v rest p.length) _
    rw [HRP.znr.2.2]
    exact HSB.znr
  ·have d0:((n:Int)==0)=false:=by simp;omega
   obtain ⟨q,hq⟩:∃ q,q=min n 1024:=⟨_,rfl⟩
   have hq1:q≤n:=by omega
   have hq2:q≤1024:=by omega
   have hq3:1≤q:=by omega
   have hq4:q % 16=0:=by omega
   have hmin:(if (1024:Int) < (n:Int) then (1024:Int) else (n:Int))=(q:Int):=by split <;> omega
   have HTQ:=znq (show (d.take 1024=d.take q∧d.drop 1024=d.drop q)∧(d.take q).length=q from ⟨by
    by_cases h:n≤1024
    ·rw [show q=n by omega,Y2 (by rw [HN.znr];omega),Y2 (by rw [HN.znr];omega),Yx (by rw [HN.znr];omega),Yx (by rw [HN.znr];omega)]
     exact ⟨rfl,rfl⟩
    ·rw [show q=1024 by omega];exact ⟨rfl,rfl⟩,by rw [Ku,HN.znr];omega⟩)
   clear hq
   have hsl:=fun (w':World)=>ZN (P:=Tryz.prog) w' 22 5 1 Tryz.underlying22 zl ao n c q (by omega)
   obtain ⟨v1,p1,hA⟩:∃ v1 p1,yO r v (p++nh ws (d.take q))=(v1,p1):=⟨_,_,rfl⟩
   have hs:=jV r _ v (p++nh ws (d.take q)) (xc _) HV.znr
   rw [hA] at hs
   have HA:=znq (And.intro hA trivial)
   have HV1:=znq (show v1 < PP∧True from ⟨hs.1,trivial⟩)
   have hp1:p1.length < 16:=hs.2
   have HF1:=znq (show qz ws r v1 p1 (d.drop q)=fin∧True from ⟨by
    rw [← HF.znr.1,Kz (v:=v) (p:=p) (d:=d) (by rw [HN.znr];exact h0),HTQ.znr.1.1,HTQ.znr.1.2,hA],trivial⟩)
   clear hA hs
   unfold zk1
   go_wp2_with fail
   refine (zh5 b2 b5 kb sb r v k kt km ws rest p ao q c (d.take q) _ (fun w' ho=>HE.znr w' (HO.znr.trans ho)) HSB.znr HRP.znr.1 HRP.znr.2.1 HRP.znr.2.2 sQ HR.znr HV.znr HTQ.znr.2 hq2 hq4 (by rw [List.map_take];exact (HL.znr _ HO.znr).take q)).mono ?_
   rintro e w2 ⟨⟨x2,rfl⟩,⟨r1,zdC,zcF,hb⟩,ho⟩
   rw [HA.znr.1] at zcF hb
   have HSB:=znq hb
   have HR1:=znq (And.intro zdC zcF)
   have HO:=znq (HO.znr.trans ho)
   clear hb zdC zcF ho hsl
   have hsl:=fun (w':World)=>yv (P:=Tryz.prog) w' 22 5 1 Tryz.underlying22 zl ao n c q q rfl hq1
   go_wp2
   refine wp_goto ⟨rfl,zgX.intro (yy ao c q) (n - q) (c - q) (d.drop q) v1 r1 p1 p1.length rfl (by omega) (by omega) hp1 (by rw [XQ,HN.znr]) (fun w' ho=>zr.rJ (HL.znr w' ho) (by rw [HN.znr];exact hc) q) ⟨HR1.znr.1,HR1.znr.2,rfl⟩ HV1.znr.1 HF1.znr.1 HSB.znr HO.znr,?_⟩
   simp [X9];omega
end Go.Proofs.YtamdifhibogdiaaGreatDoor
namespace Go.Cells
open RowKit Mem
structure Up (S:Nat→Prop) (w w':World):Prop where
 size:w.heap.size≤w'.heap.size
 block:∀ k,S k→k < w.heap.size→w'.heap[k]? = w.heap[k]?
theorem Up.refl (S:Nat→Prop) (w:World):Up S w w:=⟨xc _,fun _ _ _=>rfl⟩
theorem Up.trans {S:Nat→Prop} {u v w:World} (h:Up S u v) (k:Up S v w):Up S u w:=⟨uj h.size k.size,fun i hi hl=>(k.block i hi (Nat.lt_of_lt_of_le hl h.size)).trans (h.block i hi hl)⟩
theorem Up.mono {S T:Nat→Prop} {u v:World} (h:Up S u v) (hc:∀ i,T i→S i):Up T u v:=⟨h.size,fun i hi hl=>h.block i (hc i hi) hl⟩
theorem Up.zaY {S:Nat→Prop} {sb:Nat} {w w':World} (h:zI sb w w') (hs:¬ S sb):Up S w w':=⟨h.size,fun i hi hl=>h.block i hl (fun e=>hs (e ▸ hi))⟩
theorem Up.nH {S:Nat→Prop} {sb:Nat} {w w':World} (h:Only sb w w') (hs:¬ S sb):Up S w w':=Up.zaY (zI.nH h) hs
theorem Up.of_below {S:Nat→Prop} {w w':World} (h:Below w.heap.size w w'):Up S w w':=⟨h.size,fun i _ hl=>h.block i hl⟩
theorem Blk.up {S:Nat→Prop} {w w':World} {b:Nat} {vs:List Value} {ty:TypeId} (h:Blk w b vs ty) (hu:Up S w w') (hb:S b):Blk w' b vs ty:=(hu.block b hb h.lt).trans h
def Std (base:Nat) (L:List Nat) (w:World) (X:World→Prop):Prop:=∀ S w',(∀ i,base≤i∨i∈L→S i)→Up S w w'→X w'
theorem Std.self {base:Nat} {L:List Nat} {w:World} {X:World→Prop} (h:Std base L w X):X w:=h (fun _=>True) w (fun _ _=>trivial) (Up.refl _ w)
theorem Std.later {base:Nat} {L:List Nat} {w w':World} {X:World→Prop} (h:Std base L w X) (hb:Below w.heap.size w w'):Std base L w' X:=fun S w'' hS hu=>h S w'' hS ((Up.of_below hb).trans hu)
theorem Std.mono {b c:Nat} {L M:List Nat} {w:World} {X:World→Prop} (h:Std b L w X) (hb:c≤b) (hl:∀ i∈L,c≤i∨i∈M):Std c M w X:=fun S w'' hS hu=>h S w'' (fun i hi=>hi.elim (fun hi=>hS i (.inl (uj hb hi))) fun hi=>hS i (hl i hi)) hu
theorem Std.at {base:Nat} {L:List Nat} {w w':World} {X:World→Prop} (h:Std base L w X) (hu:Up (fun i=>base≤i∨i∈L) w w'):Std base L w' X:=fun S w'' hS hv=>h (fun i=>base≤i∨i∈L) w'' (fun _ h=>h) (hu.trans (hv.mono hS))
theorem Std.only {base sb:Nat} {L:List Nat} {w w':World} {X:World→Prop} (h:Std base L w X) (ho:Only sb w w') (h1:sb < base) (h2:sb∉L):Std base L w' X:=h.at (Up.nH ho (fun e=>e.elim (fun e=>by omega) h2))
theorem Std.imp {base:Nat} {L:List Nat} {w:World} {X Y:World→Prop} (h:Std base L w X) (hi:∀ w',X w'→Y w'):Std base L w Y:=fun S w' hS hu=>hi w' (h S w' hS hu)
end Go.Cells
namespace Go.Proofs.YtamdifhibogdiaaGreatDoor
open RowKit Mem Ops Cells Oct Trn Blake pI Adi
attribute [local irreducible] zE zN zO zM yJ
theorem zdo {w:World} {base n cap sb:Nat} {ao:Option Addr} {xs:List Value} (h:w.ownsRow base 5 1 (.slice ao n cap) n xs) (hsb:sb < base):∀ w',zI sb w w'→zr w' ao xs:=by
 intro w' ho
 have h':w'.ownsRow base 5 1 (.slice ao n cap) n xs:=by
  refine ⟨h.1,h.2.imp id ?_⟩
  rintro ⟨g,c,cur,hv,hg,hh,rest⟩
  exact ⟨g,c,cur,hv,hg,(ho.block g (Array.getElem?_eq_some_iff.1 hh).1 (by omega)).trans hh,rest⟩
 obtain ⟨ao',cap',hv,_,_,hl⟩:=zw h'
 cases hv
 exact hl
theorem VP:(Tryz.prog.info? 404).map (·.zero)=some (some (.pointer none)):=by kernel_rfl
theorem VQ:(Tryz.prog.info? 404).map (·.size)=some 1:=by kernel_rfl
theorem ky (b:List UInt8):(kF b 16).length % 16=0∧(kF b 16).length≤b.length+15:=by
 unfold kF j8
 rw [q8,bZ]
 omega
theorem zk2 (kb:Nat) (kt km:List UInt8) (ws:List UInt32) (ao:Option Addr) (n cap:Nat) (b:List UInt8) (w:World) (hk:Y3 w kb kt km ws) (hn:b.length=n) (hn6:n≤1000000) (hl:zr w ao (b.map B)) :
  Calls Tryz.prog 308 #[.pointer (some ⟨kb,0,none⟩),.slice ao n cap] w fun e w'=>e=.returned (.agg (zQ (vZ km ws b)).toArray)∧Below w.heap.size w w':=by
 have HN:=znq hn
 have HL:=znq hl
 have HK:=znq hk
 obtain ⟨wa,wc,hkb,_,_⟩:=hk.blk
 have HKB:=znq hkb
 have zeU:=znq (And.intro hk.zeA hk.zeT)
 have HKV:=znq (show (km.map B).length=16 by rw [yf];exact hk.zeT)
 have hkb':=hkb.lt
 obtain ⟨r,hr⟩:∃ r,r=rOf km:=⟨_,rfl⟩
 have HR:=znq (show rOf km=r∧r < PP from ⟨hr.symm,by rw [hr];exact zke _⟩)
 obtain ⟨d,hd⟩:∃ d,d=kF b 16:=⟨_,rfl⟩
 obtain ⟨dn,hdn⟩:∃ x,x=d.length:=⟨_,rfl⟩
 have HD:=znq (show kF b 16=d∧d.length=dn from ⟨hd.symm,hdn.symm⟩)
 have HDN:=znq (show n+j8 n 16=dn from by rw [hdn,hd,kF,q8,bZ,hn])
 have zgY:dn % 16=0:=by rw [hdn,hd];exact (ky b).1
 obtain ⟨v1,p1,hA⟩:∃ v1 p1,qz ws r 0 [] d=(v1,p1):=⟨_,_,rfl⟩
 have hs:=KA ws r _ 0 [] d (xc _) (by decide:0 < PP) (by decide)
 rw [hA] at hs
 have HA:=znq (And.intro hA trivial)
 have HV1:=znq (show v1 < PP∧True from ⟨hs.1,trivial⟩)
 have hp1:p1.length < 16:=hs.2
 have tL:=znq (show vZ km ws b=xo (Z7 (qq r v1 p1))∧True from ⟨by
  unfold vZ
  rw [HR.znr.1,HD.znr.1,hA],trivial⟩)
 rw [tL.znr.1]
 have HS:=znq (St.start w)
 clear hn hl hk hkb hr hd hdn hA hs tL
 go_enter Tryz.func308,Tryz.ntmps308
 go_wp2_with (refine zh 257 _ [.pointer (some ⟨kb,0,none⟩)] _ rfl rfl rfl rfl ?_)
 intro w1 hb hbel
 have HKB:=znq (HKB.znr.below hbel hkb')
 have HS:=znq (HS.znr.push hb hbel)
 have hlt1:=hb.lt
 clear hb hbel
 generalize hbb:w.heap.size=bb at *
 have HBB:=znq hbb
 clear hbb
 go_wp2_with (refine ze 62 [L 0,L 0] _ rfl rfl zT rfl ?_)
 intro w2 hb hbel
 have HKB:=znq (HKB.znr.below hbel HKB.znr.lt)
 have HS:=znq (HS.znr.push hb hbel)
 have hlt2:=hb.lt
 clear hb hbel
 generalize w1.heap.size=b1 at *
 have hc2:=(HS.znr.get 1 rfl).cell 0 _ rfl
 go_wp2_with (refine HKB.znr.rZ (off:=16) rfl rfl rfl zc (zh1 zeU.znr.1 zeU.znr.2) HKV.znr ?_)
 refine (zge km _ zeU.znr.2).mono ?_
 rintro e w5 ⟨sb,rfl,hsb,hb,hbel⟩
 rw [HR.znr.1] at hb
 have HSB:=znq hb
 have HS:=znq (HS.znr.later hbel)
 have hn1:b1≠sb:=by omega
 have hn2:bb≠sb:=by omega
 have hn3:bb≤sb:=by omega
 have hsb5:=hb.lt
 have hkbs:kb≠sb:=by omega
 clear hb hbel HKB hc2
 go_wp2_with (refine ze 404 [.pointer none] _ rfl rfl VP rfl ?_)
 intro w6 hb hbel
 have HSB:=znq (HSB.znr.below hbel hsb5)
 have h1:b1 < w5.heap.size:=HS.znr.ne _ (xU (i:=0) rfl)
 have h2:bb < w5.heap.size:=HS.znr.ne _ (xU (i:=1) rfl)
 have HS:=znq (HS.znr.push hb hbel)
 have zfP:=hb.lt
 clear hb hbel
 generalize w5.heap.size=b5 at *
 go_wp2_with (refine (HS.znr.get 0 rfl).zch 0 (.pointer (some ⟨sb,0,none⟩)) rfl rfl rfl rfl VQ rfl rfl (by simp) ?_)
 intro w7 hb ho
 have HSB:=znq (HSB.znr.only ho (by omega))
 have HS:=znq (show St w bb w7 [(b5,[.pointer (some ⟨sb,0,none⟩)],404),(b1,[L 0,L 0],62),(bb,[.pointer (some ⟨kb,0,none⟩)],257)] from HS.znr.change 0 hb ho (by omega) (by simp;omega))
 clear hb ho
 go_wp2_with fail
 refine (Zh ao n cap 16 b _ HN.znr (by omega) (by omega) (by omega) (HL.znr.below (by rw [HBB.znr];exact HS.znr.bel))).mono ?_
 rintro e w8 ⟨v8,rfl,hown,hbel⟩
 rw [HDN.znr] at hown
 obtain ⟨a8,c8,rfl,hc8,_,_⟩:=zw hown
 rw [HD.znr.1] at hown
 have HOWN:=znq hown
 have hsb8:sb < w7.heap.size:=HSB.znr.lt
 have HSB:=znq (HSB.znr.below hbel HSB.znr.lt)
 have HS:=znq (HS.znr.later hbel)
 clear hown hbel
 simp only [id]
 go_wp2_with fail
 refine (zh6 bb b5 kb sb r 0 0 kt km ws (zf 16) [] a8 dn c8 d _ (fun w' ho=>⟨(HS.znr.get 2 rfl).pR ho hn2,(HS.znr.get 0 rfl).pR ho (by omega),HK.znr.far (by rw [HBB.znr];exact HS.znr.bel) (by rw [HBB.znr];exact hn3) w' ho⟩) HSB.znr (zd 16) rfl rfl (by omega) HR.znr.2 (by decide) HD.znr.2 hc8 zgY (fun w' ho=>zdo HOWN.znr hsb8 w' ho)).mono ?_
 rintro e w9 ⟨⟨x9,rfl⟩,⟨r1,zdC,zcF,hb⟩,ho⟩
 rw [HA.znr.1] at zcF hb
 have HSB:=znq hb
 have HR1:=znq (And.intro zdC zcF)
 have HS:=znq (HS.znr.ziW ho hn3 (by simp;omega))
 clear hb zdC zcF ho
 have hc5:=(HS.znr.get 0 rfl).cell 0 _ rfl
 go_wp2_with fail
 refine (Kx sb r v1 r1 p1 p1.length _ HSB.znr HR1.znr.1 HR1.znr.2 rfl hp1 HR.znr.2 HV1.znr.1).mono ?_
 rintro e w10 ⟨rfl,hbel⟩
 have HS:=znq (HS.znr.later hbel)
 clear hbel hc5
 go_wp2_with (refine (HS.znr.get 1 rfl).mM rfl rfl rfl (cs:=zQ (xo (Z7 (qq r v1 p1)))) rfl zq rfl rfl (zX _) ?_)
 intro w11 hb ho
 have HE:=znq (zk HS.znr.bel ho (by omega))
 clear ho
 go_wp2
 refine hb.result rfl rfl rfl zq rfl ⟨rfl,?_⟩
 rw [HBB.znr]
 exact HE.znr
theorem KR (kb:Nat) (kt km:List UInt8) (ws:List UInt32) (ao:Option Addr) (n cap:Nat) (tw:List UInt8) (bo:Option Addr) (m cb:Nat) (b:List UInt8) (w:World) (hk:Y3 w kb kt km ws) (hn:tw.length=n) (hc:n≤cap) (hn6:n≤1000000) (hl:zr w ao (tw.map B)) (hm:b.length=m) (hm6:m≤1000000) (hlb:zr w bo (b.map B)) :
  Calls Tryz.prog 300 #[.pointer (some ⟨kb,0,none⟩),.slice ao n cap,.slice bo m cb] w fun e w'=>e=.returned (.agg (zQ (nY (vY kt tw m) (vZ km ws b))).toArray)∧Below w.heap.size w w':=by
 have HK:=znq hk
 have HN:=znq hn
 have HL:=znq hl
 have HM:=znq hm
 have HLB:=znq hlb
 have HS:=znq (St.start w)
 clear hk hn hl hm hlb
 go_enter Tryz.func300,Tryz.ntmps300
 go_wp2_with (refine ze 62 [L 0,L 0] _ rfl rfl zT rfl ?_)
 intro w1 hb hbel
 have HS:=znq (HS.znr.push hb hbel)
 clear hb hbel
 generalize hbb:w.heap.size=bb at *
 have HBB:=znq hbb
 have HB:=znq (show ∀ wz,St w bb wz [(bb,[L 0,L 0],62)]→Below w.heap.size w wz from fun wz h=>by rw [hbb];exact h.bel)
 clear hbb
 go_wp2_with fail
 refine (zm5 kb kt km ws ao n cap tw m _ (HK.znr.below (HB.znr _ HS.znr)) HN.znr hc hn6 hm6 (HL.znr.below (HB.znr _ HS.znr))).mono ?_
 rintro e w2 ⟨rfl,hbel⟩
 have HS:=znq (HS.znr.later hbel)
 clear hbel
 go_wp2_with fail
 refine (zk2 kb kt km ws bo m cb b _ (HK.znr.below (HB.znr _ HS.znr)) HM.znr hm6 (HLB.znr.below (HB.znr _ HS.znr))).mono ?_
 rintro e w3 ⟨rfl,hbel⟩
 have HS:=znq (HS.znr.later hbel)
 clear hbel
 go_wp2_with fail
 refine (J6 (vY kt tw m) (vZ km ws b) _).mono ?_
 rintro e w4 ⟨rfl,hbel⟩
 have HS:=znq (HS.znr.later hbel)
 clear hbel
 go_wp2_with (refine (HS.znr.get 0 rfl).mM rfl rfl rfl (cs:=zQ (nY (vY kt tw m) (vZ km ws b))) rfl zq rfl rfl (zX _) ?_)
 intro w5 hb ho
 have HE:=znq (zk HS.znr.bel ho (by omega))
 clear ho
 go_wp2
 refine hb.result rfl rfl rfl zq rfl ⟨rfl,?_⟩
 rw [HBB.znr]
 exact HE.znr
theorem zdp {a b:List UInt8} (ha:a.length=16) (hb:b.length=16) (wa:Option Addr) (m wc:Nat):Tryz.prog.built 307 [(0,.agg (a.map B).toArray),(1,.agg (b.map B).toArray),(2,.slice wa m wc)]=some (ZV a b (.slice wa m wc)).toArray:=by
 obtain ⟨a0,a1,a2,a3,a4,a5,a6,a7,a8,a9,a10,a11,a12,a13,a14,a15,rfl⟩:=ZI ha
 obtain ⟨b0,b1,b2,b3,b4,b5,b6,b7,b8,b9,b10,b11,b12,b13,b14,b15,rfl⟩:=ZI hb
 kernel_rfl
theorem zm7 (ao:Option Addr) (cap:Nat) (key:List UInt8) (w:World) (hk:key.length=1104) (hc:1104≤cap) (hl:zr w ao (key.map B)) :
  Calls Tryz.prog 170 #[.slice ao 1104 cap] w fun e w'=>∃ kb,e=.returned (.tuple #[.pointer (some ⟨kb,0,none⟩),.int .i64 0])∧Std w.heap.size [] w' (fun w''=>Y3 w'' kb (block key) (block (key.drop 16)) (Za (key.drop 32)))∧Below w.heap.size w w':=by
 have HK:=znq hk
 have HL:=znq hl
 have HS:=znq (St.start w)
 clear hk hl
 have hsl:=fun (w':World)=>yv (P:=Tryz.prog) w' 22 5 1 Tryz.underlying22 zl ao 1104 cap 32 32 rfl (by omega)
 have ziX:=znq (show zr w (yy ao cap 32) ((key.drop 32).map B) from zr.rJ HL.znr (by rw [HK.znr];exact hc) 32)
 have zaF:=znq (show zr w (yy ao cap 16) ((key.drop 16).map B) from zr.rJ HL.znr (by rw [HK.znr];exact hc) 16)
 go_enter Tryz.func170,Tryz.ntmps170
 go_wp2_with fail
 refine (zh3 (yy ao cap 32) (cap - 32) (key.drop 32) _ (by rw [XQ,HK.znr]) ziX.znr).mono ?_
 rintro e w1 ⟨wb,rfl,hwb,hb,hbel⟩
 have HWB:=znq hwb
 clear hwb
 have HS:=znq (HS.znr.push (b:=wb) (vs:=(Za (key.drop 32)).map W) (ty:=155) hb hbel)
 clear hb hbel hsl
 have hsl:=fun (w':World)=>yv (P:=Tryz.prog) w' 22 5 1 Tryz.underlying22 zl ao 1104 cap 16 16 rfl (by omega)
 go_wp2_with fail
 refine zn [0,2,3,5,1,4,6,7,8,9] (by kernel_rfl) (by kernel_rfl) ?_
 rintro w2 rfl
 refine mqR ?_
 clear hsl
 have HS:=znq HS.znr.drew
 refine zi rfl rfl (by rfl) (fun K hK=>?_)
 go_simp
 refine (yQ ao 1104 cap key _ HK.znr (HL.znr.below HS.znr.bel)).mono ?_
 rintro e w3 ⟨rfl,hbel⟩
 have HS:=znq (HS.znr.later hbel)
 go_simp
 refine hK _ _ hbel ?_
 clear hK K hbel
 refine zi rfl rfl (by rfl) (fun K hK=>?_)
 go_simp
 refine (yQ (yy ao cap 16) 1088 (cap - 16) (key.drop 16) _ (by rw [XQ,HK.znr]) (zaF.znr.below HS.znr.bel)).mono ?_
 rintro e w4 ⟨rfl,hbel⟩
 have HS:=znq (HS.znr.later hbel)
 go_simp
 refine hK _ _ hbel ?_
 clear hK K hbel
 refine kQ rfl rfl (by rfl) 307 _ _ _ rfl rfl (zdp (zA key) (zA (key.drop 16)) (some ⟨wb,0,none⟩) 268 268) (fun K hK=>?_)
 go_simp
 refine hK _ ?_
 clear hK K
 refine zi rfl rfl (by rfl) (fun K hK=>?_)
 have HZ4:=znq HS.znr.size
 refine zj5 307 _ (ZV (block key) (block (key.drop 16)) (.slice (some ⟨wb,0,none⟩) 268 268)) _ rfl rfl rfl (fun w5 hb hbel=>hK _ _ hbel ?_)
 clear hK K
 have HS:=znq (HS.znr.push hb hbel)
 clear hb hbel
 go_simp
 refine mqR ?_
 refine zo ?_
 go_wp2
 go_ret2
 exact ⟨_,rfl,fun S w'' hS ho=>⟨⟨_,_,(HS.znr.get 0 rfl).up ho (hS _ (.inl HZ4.znr)),((HS.znr.get 1 rfl).up ho (hS _ (.inl HWB.znr))).lies,by omega⟩,zA _,zA _,VL _⟩,HS.znr.bel⟩
end Go.Proofs.YtamdifhibogdiaaGreatDoor
namespace Go.Mem
open RowKit Cells Ops
theorem YK {w:World} {base n:Nat} {e:TypeId} {v:Value} {xs:List Value} (h:w.ownsRow base e 1 v n xs) (hn:0 < n):∃ g cap tl,v=.slice (some ⟨g,0,none⟩) n cap∧Blk w g (xs++tl) e∧base≤g∧n≤cap:=by
 rcases h.2 with ⟨_,h0⟩ | ⟨g,cap,cur,rfl,hb,hg,h1,h2,h3,ht⟩
 ·omega
 ·refine ⟨g,cap,cur.toList.drop (n*1),rfl,?_,hb,h1⟩
  rw [← ht,List.take_append_drop]
  unfold Blk
  rw [hg]
theorem ZY {w:World} {g:Nat} {xs tl:List Value} {ty:TypeId} (h:Blk w g (xs++tl) ty):zr w (some ⟨g,0,none⟩) xs:=by
 have:=h.lies.take xs.length
 rwa [List.take_left] at this
end Go.Mem
namespace Go.Cells
open RowKit Mem
def Zt (S:Nat→Prop) (w:World) (X:World→Prop):Prop:=∀ w',Up S w w'→X w'
theorem Zt.later {S:Nat→Prop} {w w':World} {X:World→Prop} (h:Zt S w X) (hb:Below w.heap.size w w'):Zt S w' X:=fun w'' hu=>h w'' ((Up.of_below hb).trans hu)
theorem Zt.only {S:Nat→Prop} {b:Nat} {w w':World} {X:World→Prop} (h:Zt S w X) (ho:Only b w w') (hn:¬ S b):Zt S w' X:=fun w'' hu=>h w'' ((Up.nH ho hn).trans hu)
end Go.Cells
namespace Go.Mem
open RowKit Cells Ops
end Go.Mem
namespace Go.Proofs.YtamdifhibogdiaaGreatDoor
open RowKit Mem Ops Cells Oct Gf Trn Aes Ring Ezk Blake Adi Hct Wid Fl ru
attribute [local irreducible] zE zN zO zM yu
theorem zn1 (w:World) (hg:pQ w):Calls Tryz.prog 18 #[] w fun e w'=>∃ q p,e=.returned (.pointer (some ⟨q,0,none⟩))∧Tab w' q p∧(w.heap.size≤q∧w.heap.size≤p)∧Below w.heap.size w w':=by
 have HG:=znq hg
 clear hg
 go_enter Tryz.func18,Tryz.ntmps18
 go_wp2_with fail
 refine (zfs _).mono ?_
 rintro e w1 ⟨p,rfl,hp,hb,hbel⟩
 have HB:=znq hb
 have HL:=znq hbel
 have HP:=znq hp
 clear hb hbel hp
 go_wp2_with fail
 refine (zfI p boxes _ kX HB.znr (HG.znr.below HL.znr)).mono ?_
 rintro e w2 ⟨q,rfl,hq,hb2,mV⟩
 have HT:=znq (show Tab w2 q p from ⟨HB.znr.below mV HB.znr.lt,hb2⟩)
 have HQ:=znq (uj HL.znr.size hq)
 have HL:=znq (HL.znr.trans (mV.mono HL.znr.size))
 clear mV hb2 hq
 go_wp2
 go_ret
 exact ⟨_,_,rfl,HT.znr,⟨HQ.znr,HP.znr⟩,HL.znr⟩
theorem zo5:at8 Gf.boxes 0=99∧at8 Gf.boxes 1=124:=by constructor <;> decide +kernel
theorem zpo (w:World) (hg:pQ w):Calls Tryz.prog 24 #[] w fun e w'=>e=.returned (.bool true)∧Below w.heap.size w w':=by
 have HG:=znq hg
 clear hg
 go_enter Tryz.func24,Tryz.ntmps24
 go_wp2_with fail
 refine (zn1 _ HG.znr).mono ?_
 rintro e w1 ⟨q,p,rfl,ht,hqp,hbel⟩
 have HT:=znq ht
 have HL:=znq hbel
 clear ht hbel hqp
 go_wp2_with fail
 refine (zl6 q p 0 _ HT.znr).mono ?_
 rintro e w2 ⟨rfl,rfl⟩
 rw [show (0:UInt8).toNat=0 from rfl,zo5.1]
 go_wp2_with fail
 refine (zl6 q p 1 _ HT.znr).mono ?_
 rintro e w2 ⟨rfl,rfl⟩
 rw [show (1:UInt8).toNat=1 from rfl,zo5.2]
 go_wp2
 go_ret
 exact ⟨rfl,HL.znr⟩
theorem zp8 (alg:Int) (ao:Option Addr) (n c:Nat) (w:World) :
  Calls Tryz.prog 15 #[.agg #[.int .i64 alg,.slice ao n c]] w fun e w'=>e=.returned (.bool (decide (n≤200) && (ko alg n==0)))∧Below w.heap.size w w':=by
 have HS:=znq (St.start w)
 obtain ⟨x,hx⟩:∃ x,x=ko alg n:=⟨_,rfl⟩
 have HW:=znq (And.intro hx trivial)
 rw [← hx]
 clear hx
 obtain ⟨d1,hd⟩:∃ d1,decide (n≤200)=d1:=⟨_,rfl⟩
 obtain ⟨d2,he⟩:∃ d2,(x==0)=d2:=⟨_,rfl⟩
 rw [hd,he]
 have hd':decide ((n:Int)≤200)=d1:=by rw [← hd];exact decide_eq_decide.2 (by omega)
 have he':((x:Int)==0)=d2:=by rw [← he];cases x <;> simp <;> omega
 cases d1 <;> cases d2
 rotate_left 2
 ·go_enter Tryz.func15,Tryz.ntmps15
  go_wp2_with (refine zh 24 _ [.int .i64 alg,.slice ao n c] _ rfl rfl rfl rfl ?_)
  intro w1 hb hbel;have HS:=znq (HS.znr.push hb hbel);clear hb hbel
  have hx0:=(HS.znr.get 0 rfl).cell 0 _ rfl
  have hx1:=(HS.znr.get 0 rfl).cell 1 _ rfl
  go_wp2_with fail
  refine (qb alg ao n c _).mono ?_
  rintro e w2 ⟨rfl,rfl⟩
  rw [← HW.znr.1]
  go_wp2
  go_ret
  exact ⟨rfl,HS.znr.bel⟩
 ·go_enter Tryz.func15,Tryz.ntmps15
  go_wp2_with (refine zh 24 _ [.int .i64 alg,.slice ao n c] _ rfl rfl rfl rfl ?_)
  intro w1 hb hbel;have HS:=znq (HS.znr.push hb hbel);clear hb hbel
  have hx0:=(HS.znr.get 0 rfl).cell 0 _ rfl
  have hx1:=(HS.znr.get 0 rfl).cell 1 _ rfl
  go_wp2_with fail
  refine (qb alg ao n c _).mono ?_
  rintro e w2 ⟨rfl,rfl⟩
  rw [← HW.znr.1]
  go_wp2
  go_ret
  exact ⟨rfl,HS.znr.bel⟩
 ·go_enter Tryz.func15,Tryz.ntmps15
  go_wp2_with (refine zh 24 _ [.int .i64 alg,.slice ao n c] _ rfl rfl rfl rfl ?_)
  intro w1 hb hbel;have HS:=znq (HS.znr.push hb hbel);clear hb hbel
  have hx0:=(HS.znr.get 0 rfl).cell 0 _ rfl
  have hx1:=(HS.znr.get 0 rfl).cell 1 _ rfl
  go_wp2
  go_ret
  exact ⟨rfl,HS.znr.bel⟩
 ·go_enter Tryz.func15,Tryz.ntmps15
  go_wp2_with (refine zh 24 _ [.int .i64 alg,.slice ao n c] _ rfl rfl rfl rfl ?_)
  intro w1 hb hbel;have HS:=znq (HS.znr.push hb hbel);clear hb hbel
  have hx0:=(HS.znr.get 0 rfl).cell 0 _ rfl
  have hx1:=(HS.znr.get 0 rfl).cell 1 _ rfl
  go_wp2
  go_ret
  exact ⟨rfl,HS.znr.bel⟩
end Go.Proofs.YtamdifhibogdiaaGreatDoor
namespace Go.Wid
end Go.Wid
namespace Go.Proofs.YtamdifhibogdiaaGreatDoor
open RowKit Mem Ops Cells Oct Gf Trn Aes Ring Ezk Ezh Ezt Ezc Aez Blake ru Fl Wid
attribute [local irreducible] zE zN zO zM yu
end Go.Proofs.YtamdifhibogdiaaGreatDoor
namespace Go.Proofs.YtamdifhibogdiaaGreatDoor
open RowKit Mem Ops Cells Oct Trn Adi Hct
attribute [local irreducible] zE zN zO zM yJ
theorem zgN (p:UInt64×UInt64) (w:World):Calls Tryz.prog 352 #[.agg (zQ p).toArray] w fun e w'=>e=.returned (.agg (zQ (upR p)).toArray)∧Below w.heap.size w w':=by
 have HS:=znq (St.start w)
 go_enter Tryz.func352,Tryz.ntmps352
 go_wp2_with (refine zh 62 _ (zQ p) _ rfl rfl rfl rfl ?_)
 intro w1 hb hbel;have HS:=znq (HS.znr.push hb hbel);have hlt1:=hb.lt;clear hb hbel
 go_wp2_with (refine ze 62 ([L 0,L 0]) _ rfl rfl zT rfl ?_)
 intro w2 hb hbel;have HS:=znq (HS.znr.push hb hbel);have hlt2:=hb.lt;clear hb hbel
 generalize hbb:w.heap.size=bb at *
 generalize w1.heap.size=b1 at *
 have HBB:=znq hbb
 clear hbb
 have hx0:=(HS.znr.get 1 rfl).cell 0 (L p.1) rfl
 have hx1:=(HS.znr.get 1 rfl).cell 1 (L p.2) rfl
 go_wp2_with (refine (HS.znr.get 0 rfl).mM rfl rfl rfl (cs:=zQ (upR p)) rfl zq rfl rfl (zX _) ?_)
 intro w4 hb ho
 have HE:=znq (zk HS.znr.bel ho (by omega))
 clear ho hx0 hx1
 go_wp2
 refine hb.result rfl rfl rfl zq rfl ⟨rfl,?_⟩
 rw [HBB.znr]
 exact HE.znr
theorem zmt (p:UInt64×UInt64) (w:World):Calls Tryz.prog 353 #[.agg (zQ p).toArray] w fun e w'=>e=.returned (.agg (zQ (zcB p)).toArray)∧Below w.heap.size w w':=by
 have HS:=znq (St.start w)
 go_enter Tryz.func353,Tryz.ntmps353
 go_wp2_with (refine zh 62 _ (zQ p) _ rfl rfl rfl rfl ?_)
 intro w1 hb hbel;have HS:=znq (HS.znr.push hb hbel);have hlt1:=hb.lt;clear hb hbel
 go_wp2_with (refine ze 62 ([L 0,L 0]) _ rfl rfl zT rfl ?_)
 intro w2 hb hbel;have HS:=znq (HS.znr.push hb hbel);have hlt2:=hb.lt;clear hb hbel
 generalize hbb:w.heap.size=bb at *
 generalize w1.heap.size=b1 at *
 have HBB:=znq hbb
 clear hbb
 have hx0:=(HS.znr.get 1 rfl).cell 0 (L p.1) rfl
 have hx1:=(HS.znr.get 1 rfl).cell 1 (L p.2) rfl
 go_wp2_with (refine (HS.znr.get 0 rfl).mM rfl rfl rfl (cs:=zQ (zcB p)) rfl zq rfl rfl (zX _) ?_)
 intro w4 hb ho
 have HE:=znq (zk HS.znr.bel ho (by omega))
 clear ho hx0 hx1
 go_wp2
 refine hb.result rfl rfl rfl zq rfl ⟨rfl,?_⟩
 rw [HBB.znr]
 exact HE.znr
theorem J8 (p q:UInt64×UInt64) (f:UInt64) (w:World):Calls Tryz.prog 351 #[.agg (zQ p).toArray,.agg (zQ q).toArray,L f] w fun e w'=>e=.returned (.agg (zQ (rY p q f)).toArray)∧Below w.heap.size w w':=by
 have HS:=znq (St.start w)
 go_enter Tryz.func351,Tryz.ntmps351
 go_wp2_with (refine zh 62 _ (zQ p) _ rfl rfl rfl rfl ?_)
 intro w1 hb hbel;have HS:=znq (HS.znr.push hb hbel);have hlt1:=hb.lt;clear hb hbel
 go_wp2_with (refine zh 62 _ (zQ q) _ rfl rfl rfl rfl ?_)
 intro w2 hb hbel;have HS:=znq (HS.znr.push hb hbel);have hlt2:=hb.lt;clear hb hbel
 go_wp2_with (refine ze 62 ([L 0,L 0]) _ rfl rfl zT rfl ?_)
 intro w3 hb hbel;have HS:=znq (HS.znr.push hb hbel);have hlt3:=hb.lt;clear hb hbel
 generalize hbb:w.heap.size=bb at *
 generalize w1.heap.size=b1 at *
 generalize w2.heap.size=b2 at *
 have HBB:=znq hbb
 clear hbb
 have hx0:=(HS.znr.get 2 rfl).cell 0 (L p.1) rfl
 have hx1:=(HS.znr.get 2 rfl).cell 1 (L p.2) rfl
 have hy0:=(HS.znr.get 1 rfl).cell 0 (L q.1) rfl
 have hy1:=(HS.znr.get 1 rfl).cell 1 (L q.2) rfl
 go_wp2_with (refine (HS.znr.get 0 rfl).mM rfl rfl rfl (cs:=zQ (rY p q f)) rfl zq rfl rfl (zX _) ?_)
 intro w4 hb ho
 have HE:=znq (zk HS.znr.bel ho (by omega))
 clear ho hx0 hx1 hy0 hy1
 go_wp2
 refine hb.result rfl rfl rfl zq rfl ⟨rfl,?_⟩
 rw [HBB.znr]
 exact HE.znr
theorem zgO (p:UInt64×UInt64) (i:Nat) (w:World) (hi:i < 128):Calls Tryz.prog 354 #[.agg (zQ p).toArray,.int .i64 i] w fun e w'=>e=.returned (L (zcR p i))∧Below w.heap.size w w':=by
 have HS:=znq (St.start w)
 obtain ⟨b,hb⟩:∃ b,b=zcR p i:=⟨_,rfl⟩
 rw [← hb]
 go_enter Tryz.func354,Tryz.ntmps354
 go_wp2_with (refine zh 62 _ (zQ p) _ rfl rfl rfl rfl ?_)
 intro w1 hb hbel;have HS:=znq (HS.znr.push hb hbel);have hlt1:=hb.lt;clear hb hbel
 generalize hbb:w.heap.size=bb at *
 have HBB:=znq hbb
 clear hbb
 have hx0:=(HS.znr.get 0 rfl).cell 0 (L p.1) rfl
 have hx1:=(HS.znr.get 0 rfl).cell 1 (L p.2) rfl
 by_cases h:i < 64
 ·have hd:decide ((i:Int) < 64)=true:=by simp;omega
  have HBE:=znq (show b=xk (yp p.1 i) 1∧True from ⟨by rw [hb,zcR,if_pos h],trivial⟩)
  clear hb
  go_wp2
  refine ⟨rfl,_,results_tmp rfl _ _ _,?_⟩
  rw [HBB.znr]
  exact ⟨by rw [HBE.znr.1];rfl,HS.znr.bel⟩
 ·have hd:decide ((i:Int) < 64)=false:=by simp;omega
  obtain ⟨j,rfl⟩:∃ j,i=64+j:=⟨i - 64,by omega⟩
  have HBE:=znq (show b=xk (yp p.2 j) 1∧True from ⟨by rw [hb,zcR,if_neg h,Nat.add_sub_cancel_left],trivial⟩)
  have hj:IntKind.i64.wrap (((64+j:Nat):Int) - 64)=j:=by rw [IntWalk.i64_in _ (by omega)];omega
  clear hb
  go_wp2
  refine ⟨rfl,_,results_tmp rfl _ _ _,?_⟩
  rw [HBB.znr]
  exact ⟨by rw [HBE.znr.1];rfl,HS.znr.bel⟩
theorem zgP (p q:UInt64×UInt64) (w:World):Calls Tryz.prog 350 #[.agg (zQ p).toArray,.agg (zQ q).toArray] w fun e w'=>e=.returned (.agg (zQ (zgM p q)).toArray)∧Below w.heap.size w w':=by
 have HS:=znq (St.start w)
 go_enter Tryz.func350,Tryz.ntmps350
 go_wp2_with (refine zh 62 _ (zQ p) _ rfl rfl rfl rfl ?_)
 intro w1 hb hbel;have HS:=znq (HS.znr.push hb hbel);have hlt1:=hb.lt;clear hb hbel
 go_wp2_with (refine zh 62 _ (zQ q) _ rfl rfl rfl rfl ?_)
 intro w2 hb hbel;have HS:=znq (HS.znr.push hb hbel);have hlt2:=hb.lt;clear hb hbel
 go_wp2_with (refine ze 62 (zQ (0,0)) _ rfl rfl zT rfl ?_)
 intro w3 hb hbel;have HS:=znq (HS.znr.push hb hbel);have hlt3:=hb.lt;clear hb hbel
 go_wp2_with (refine ze 62 (zQ (0,0)) _ rfl rfl zT rfl ?_)
 intro w4 hb hbel;have HS:=znq (HS.znr.push hb hbel);have zaE:=hb.lt;clear hb hbel
 generalize hbb:w.heap.size=bb at *
 generalize w1.heap.size=b1 at *
 generalize w2.heap.size=b2 at *
 generalize w3.heap.size=b3 at *
 have HBB:=znq hbb
 clear hbb
 go_wp2
 go_loopw [7] (fun c wr=>∃ (i:Nat) (s:UInt64×UInt64),i≤128∧c=.int .i64 i∧Hid (s=zgc p q i∧True)∧Hid (St w bb wr [(b3,zQ s,62),(b2,zQ (0,0),62),(b1,zQ q,62),(bb,zQ p,62)])) (fun c _=>128 - (intOf c).toNat)
 case atStart=>exact ⟨0,(0,0),by omega,rfl,znq ⟨rfl,trivial⟩,HS⟩
 case round =>
  clear HS
  obtain ⟨i,s,hi,rfl,HE,HS⟩:=hrel
  by_cases hlt:i < 128
  ·have hd:decide ((i:Int) < 128)=true:=by simp;omega
   go_wp2_with fail
   refine zn [0,1,2,3,4,5,6,7] (by kernel_rfl) (by kernel_rfl) ?_
   rintro w5 rfl
   have HS:=znq HS.znr.drew
   refine zt (HS.znr.get 0 rfl).range (HS.znr.get 0 rfl).lt zq rfl rfl rfl rfl rfl (fun K hK=>?_)
   go_simp;refine hK _ ?_;clear hK K
   refine zt (HS.znr.get 3 rfl).range (HS.znr.get 3 rfl).lt zq rfl rfl rfl rfl rfl (fun K hK=>?_)
   go_simp;refine hK _ ?_;clear hK K
   refine zt (HS.znr.get 2 rfl).range (HS.znr.get 2 rfl).lt zq rfl rfl rfl rfl rfl (fun K hK=>?_)
   go_simp;refine hK _ ?_;clear hK K
   refine mqR ?_
   refine zi rfl rfl (by rfl) (fun K hK=>?_)
   go_simp
   refine (zgO q i _ hlt).mono ?_
   rintro e w6 ⟨rfl,hbel⟩
   have HS:=znq (HS.znr.later hbel)
   go_simp
   refine hK _ _ hbel ?_
   clear hK K hbel
   refine zi rfl rfl (by rfl) (fun K hK=>?_)
   go_simp
   refine (J8 s p (zcR q i) _).mono ?_
   rintro e w7 ⟨rfl,hbel⟩
   have HS:=znq (HS.znr.later hbel)
   go_simp
   refine hK _ _ hbel ?_
   clear hK K hbel
   refine zi rfl rfl (by rfl) (fun K hK=>?_)
   go_simp
   refine (zmt (rY s p (zcR q i)) _).mono ?_
   rintro e w8 ⟨rfl,hbel⟩
   have HS:=znq (HS.znr.later hbel)
   go_simp
   refine hK _ _ hbel ?_
   clear hK K hbel
   have HE:=znq (show zcB (rY s p (zcR q i))=zgc p q (i+1)∧True from ⟨by rw [HE.znr.1];rfl,trivial⟩)
   generalize zcB (rY s p (zcR q i))=s' at *
   refine zp rfl rfl (by rfl) (fun K hK=>?_)
   refine (HS.znr.get 0 rfl).mZ rfl rfl rfl zq rfl rfl (zX _) (fun w9 hb ho=>hK _ _ ?_)
   clear hK K
   have HS:=znq (HS.znr.change 0 hb ho (by omega) (by simp;omega))
   clear hb ho
   go_simp
   refine zo ?_
   go_wp2
   go_roundw
   case rel=>exact ⟨i+1,s',by omega,by go_num,HE,HS⟩
   case measure=>simp [intOf];omega
  ·obtain rfl:i=128:=by omega
   have HE:=znq (show s=zgM p q∧True from ⟨by rw [HE.znr.1];rfl,trivial⟩)
   go_wp2_with (first | (refine (HS.znr.get 0 rfl).mP rfl rfl rfl zq rfl ?_) | (refine (HS.znr.get 1 rfl).mM rfl rfl rfl rfl zq rfl rfl (zX _) ?_))
   intro w5 hb5 ho5
   go_wp2
   refine hb5.result rfl rfl rfl zq rfl ⟨by rw [HE.znr.1],?_⟩
   rw [HBB.znr]
   exact zk HS.znr.bel ho5 (by omega)
end Go.Proofs.YtamdifhibogdiaaGreatDoor

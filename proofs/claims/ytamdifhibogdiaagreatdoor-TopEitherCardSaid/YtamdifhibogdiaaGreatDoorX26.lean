/-
  Texts of this claim, one behind the other.
-/
import Derived.Test.YtamdifhibogdiaaGreatDoorX25
import Derived.Test.YtamdifhibogdiaaGreatDoorX5
import Derived.Test.YtamdifhibogdiaaGreatDoorX1
import Derived.Lib.SmallJoins
import Derived.Laws.IdiomStrings
import Derived.Deep.Slices
import Derived.ChangeArms
import Derived.ChangeSlices
import Derived.ChangeShapes
import Derived.Lib.Hide
set_option linter.unusedVariables false
set_option linter.unusedSimpArgs false
set_option maxHeartbeats 16000000
set_option maxRecDepth 100000
open List renaming flatten_cons→uF,getElem?_eq_some_iff→kT,mem_of_getElem?→xU
open Nat renaming le_refl→xc,mul_succ→fJ,zero_add→bH
open Option renaming isNone_none→wE
namespace Go.Cells
open RowKit
def zn5 (b:Nat) (w w':World):Prop:=∃ w1,Below w.heap.size w w1∧Only b w1 w'
end Go.Cells
namespace Go.Proofs.YtamdifhibogdiaaGreatDoor
open RowKit Mem Ops Cells Oct Gf Trn Aes Ring Ezk Ezh Ezt Aez Blake ru Fl Slot
attribute [local irreducible] zE zN zO zM yu
theorem zpx (hp n:Nat) (w:World) (hn:n < 8):Calls Tryz.prog 53 #[.pointer (some ⟨hp,0,none⟩),.int .i64 n] w fun e w'=>e=.returned (.bool true)∧w=w':=by
 have d0:decide ((n:Int)≥0)=true:=by simp
 have d1:decide ((n:Int) < 8)=true:=by simp;omega
 go_enter Tryz.func53,Tryz.ntmps53
 go_wp2
 go_ret
 exact ⟨rfl,rfl⟩
theorem zod (n:Nat):(ZP n).length=8:=zK _
theorem zqb (hp q p:Nat) (ss:List Str) (n:Nat) (ao:Option Addr) (np cp:Nat) (b:List UInt8) (so:Option Addr) (ns cs:Nat) (m:List UInt8) (w:World) (hh:Head w hp q p ss) (hg:qD w) (hn:n < 8)
  (hb:b.length=np) (h0:0 < np) (h1:np≤128) (hc:np≤cp) (hl:zr w ao (b.map B)) (hm:m.length=ns) (hm0:1≤ns) (hm1:ns≤64) (hmc:ns≤cs) (hlm:zr w so (m.map B)) :
  Calls Tryz.prog 19 #[.pointer (some ⟨hp,0,none⟩),.int .i64 n,.slice ao np cp,.slice so ns cs] w fun e w'=>e=.returned (.int .i64 0)∧(∃ s,Head w' hp q p (ss.set n s)∧s.bs=zn2 n b m∧∀ a,s.a=some a→w.heap.size≤a.block∧a.block < w'.heap.size)∧zn5 hp w w':=by
 have HH:=znq hh
 have HG:=znq hg
 have HNB:=znq hb
 have HL:=znq hl
 have HM:=znq hm
 have HLM:=znq hlm
 have d0:((ns:Int)==0)=false:=by simp;omega
 have d1:decide ((ns:Int) > 64)=false:=by simp;omega
 have hcq:=hh.YE
 clear hh hg hb hl hm hlm
 go_enter Tryz.func19,Tryz.ntmps19
 go_wp2_with fail
 refine (zpx hp n _ hn).mono ?_
 rintro e w1 ⟨rfl,rfl⟩
 go_wp2_with fail
 refine (zoo q p ao np cp b _ HNB.znr h0 h1 hc HL.znr HH.znr.tab HG.znr).mono ?_
 rintro e w2 ⟨ci,kp,rfl,hci,hbel⟩
 have HC:=znq hci
 have HB:=znq hbel
 clear hci hbel hcq
 go_wp2_with fail
 refine (zo7 n _ hn).mono ?_
 rintro e w3 ⟨na,rfl,hln,hbel⟩
 have HC:=znq (HC.znr.later hbel)
 have HLN:=znq hln
 have HB:=znq (HB.znr.trans (hbel.mono HB.znr.size))
 clear hln hbel
 go_wp2_with fail
 refine (zp6 ci kp q p (zqx b) (some na) 8 8 (ZP n) so ns cs m _ HC.znr (zod n) (by omega) HLN.znr HM.znr hm0 (by omega) hmc (HLM.znr.below HB.znr)).mono ?_
 rintro e w4 ⟨v4,rfl,zbU,nD⟩
 obtain ⟨a4,c4,rfl,hc4,_,hl4⟩:=zw zbU
 have HF4:=znq (show ∀ a,a4=some a→w.heap.size≤a.block∧a.block < w4.heap.size from fun a e=>by
  subst e
  obtain ⟨h1,h2⟩:=zbU.lt a.block rfl
  exact ⟨Nat.le_trans HB.znr.size h1,h2⟩)
 have HB:=znq (HB.znr.trans (nD.mono HB.znr.size))
 have HSL:=znq (show (zn2 n b m).length=ns+16 by rw [zn6,HM.znr])
 have HSI:=znq (show Str.In w4 ⟨a4,c4,zn2 n b m⟩ from ⟨by rw [HSL.znr];exact hc4,hl4⟩)
 have HH:=znq (HH.znr.later HB.znr)
 clear zbU hl4 nD
 go_wp2_with (refine HH.znr.blk.ry (i:=1+n) (v:=.slice a4 (ns+16) c4) rfl rfl rfl rfl jQ rfl rfl (by simp [zn3,HH.znr.len];omega) ?_)
 intro w5 hb5 ho5
 have HH5:=znq (HH.znr.set n ⟨a4,c4,zn2 n b m⟩ HSI.znr (by intro h;exfalso;rw [HSL.znr] at h;omega) (by rw [show Str.val ⟨a4,c4,zn2 n b m⟩=.slice a4 (ns+16) c4 by simp [Str.val,HSL.znr]];exact hb5) ho5)
 have HW:=znq (show zn5 hp w w5 from ⟨w4,HB.znr,ho5⟩)
 have hsz5:=ho5.size
 clear hb5 ho5
 go_wp2
 go_ret
 exact ⟨rfl,⟨_,HH5.znr,rfl,fun a e=>by have:=HF4.znr a e;rw [hsz5];exact this⟩,HW.znr⟩
theorem QW (hp q p:Nat) (ss:List Str) (n:Nat) (ao:Option Addr) (np cp:Nat) (b:List UInt8) (so:Option Addr) (ns cs:Nat) (m:List UInt8) (w:World) (hh:Head w hp q p ss) (hg:qD w) (hn:n < 8)
  (hb:b.length=np) (h0:0 < np) (h1:np≤128) (hc:np≤cp) (hl:zr w ao (b.map B)) (hm:m.length=ns) (hm0:1≤ns) (hm1:ns≤64) (hmc:ns≤cs) (hlm:zr w so (m.map B)) :
  Calls Tryz.prog 19 #[.pointer (some ⟨hp,0,none⟩),.int .i64 n,.slice ao np cp,.slice so ns cs] w fun e w'=>e=.returned (.int .i64 0)∧(∃ s,Head w' hp q p (ss.set n s)∧s.bs=zn2 n b m)∧zn5 hp w w':=by
 refine (zqb hp q p ss n ao np cp b so ns cs m w hh hg hn hb h0 h1 hc hl hm hm0 hm1 hmc hlm).mono ?_
 rintro e w' ⟨h2,⟨s,h3,h4,_⟩,h5⟩
 exact ⟨h2,⟨s,h3,h4⟩,h5⟩
def JS (w':World) (o:Option (List UInt8)) (e:Ending):Prop:=match o with
 | some m=>∃ ao,e=.returned (.tuple #[.slice ao m.length m.length,.bool true])∧zr w' ao (m.map B)
 | none=>e=.returned (.tuple #[.slice none 0 0,.bool false])
theorem zpy (bc bh ci kp hp q p n:Nat) (b:List UInt8) (ss:List Str) (s:Str) (w:World) (hci:zoe w ci kp q p (zqx b)) (hh:Head w hp q p ss) (hn:n < 8) (hs:ss[n]? = some s) (h1:17≤s.bs.length) (h2:s.bs.length≤80)
  (hbc:Blk w bc [.pointer (some ⟨ci,0,none⟩)] 47) (hbh:Blk w bh [.pointer (some ⟨hp,0,none⟩)] 29) :
  Calls Tryz.prog 57 #[.int .i64 n,.pointer (some ⟨bc,0,none⟩),.pointer (some ⟨bh,0,none⟩)] w fun e w'=>JS w' (zo6 n b s.bs) e∧Below w.heap.size w w':=by
 have HC:=znq hci
 have HI:=znq (hh.each s (xU hs))
 have hc1:=fun (y:zG w.drew)=>(y.later.cell (p:=⟨bc,0,none⟩) hbc.drew.lt).trans (hbc.drew.cell 0 _ rfl)
 have hc2:=fun (y:zG w.drew)=>(y.later.cell (p:=⟨bh,0,none⟩) hbh.drew.lt).trans (hbh.drew.cell 0 _ rfl)
 have hc3:=fun (y:zG w.drew)=>(y.later.cell (p:=⟨hp,1+n,none⟩) hh.drew.blk.lt).trans (hh.drew.cells n s hs)
 unfold Str.val at hc3
 have HB:=znq (Below.refl w.heap.size w)
 obtain ⟨o,ho⟩:∃ o,o=zo6 n b s.bs:=⟨_,rfl⟩
 have HO:=znq (show zop (zqx b) (vb 16 (ZP n) []) 16 s.bs=o∧True from ⟨ho.symm,trivial⟩)
 rw [← ho]
 clear hci hh hs hbc hbh ho
 go_enter Tryz.func57,Tryz.ntmps57
 go_wp2_with fail
 refine zn [0,1,3,4,5,6,7,8,2,9,10,11,12,13,14] (by kernel_rfl) (by kernel_rfl) ?_
 rintro w2 rfl
 refine mqR ?_
 have HB:=znq HB.znr.drew
 clear hc1 hc2 hc3
 refine zi rfl rfl (by rfl) (fun K hK=>?_)
 go_simp
 refine (zo7 n _ hn).mono ?_
 rintro e w3 ⟨na,rfl,hln,hbel⟩
 have HLN:=znq hln
 have HB:=znq (HB.znr.trans (hbel.mono HB.znr.size))
 go_simp
 refine hK _ _ hbel ?_
 clear hK K hln hbel
 refine mqR ?_
 refine zi rfl rfl (by rfl) (fun K hK=>?_)
 go_simp
 refine (zp7 ci kp q p (zqx b) (some na) 8 8 (ZP n) s.a s.bs.length s.cap s.bs _ (HC.znr.later HB.znr) (zod n) (by omega) HLN.znr rfl h1 (by omega) (HI.znr.below HB.znr).le ((HI.znr.below HB.znr).lies)).mono ?_
 rintro e w4 ⟨hop,hbel⟩
 have HB:=znq (HB.znr.trans (hbel.mono HB.znr.size))
 rw [HO.znr.1] at hop
 clear HO
 cases o with
 | none =>
  obtain rfl:e=_:=hop
  go_simp
  refine hK _ _ hbel ?_
  clear hK K hbel
  refine mqR ?_
  refine zo ?_
  go_wp2
  go_ret2
  exact ⟨rfl,HB.znr⟩
 | some m =>
  obtain ⟨ao,rfl,hlm⟩:=hop
  have HLM:=znq hlm
  go_simp
  refine hK _ _ hbel ?_
  clear hK K hbel hlm
  refine mqR ?_
  refine zo ?_
  go_wp2
  go_ret2
  exact ⟨⟨ao,rfl,HLM.znr⟩,HB.znr⟩
abbrev zol (bh bc:Nat) (us:Nat→Value):Act:={ tmps:=#[us 0,us 1,.pointer (some ⟨bh,0,none⟩),us 3,us 4,us 5,us 6,.pointer (some ⟨bc,0,none⟩),.func (.func 57) #[] #[.pointer (some ⟨bc,0,none⟩),.pointer (some ⟨bh,0,none⟩)],us 9,us 10,us 11,us 12,us 13,us 14,us 15,us 16,us 17,us 18,us 19,us 20,us 21,us 22,us 23,us 24,us 25,us 26,us 27,us 28,us 29,us 30,us 31,us 32,us 33,us 34,us 35,us 36,us 37,us 38,us 39,us 40,us 41,us 42,us 43,us 44,us 45,us 46,us 47],defers:=[] }
def zoz (ci kp hp q p:Nat) (b:List UInt8) (ss:List Str) (w:World) (x:Act) (wr:World):Prop :=
 ∃ (us:Nat→Value) (bh bc:Nat),x=zol bh bc us∧Hid (zoe wr ci kp q p (zqx b))∧Hid (Head wr hp q p ss)∧Hid (Blk wr bc [.pointer (some ⟨ci,0,none⟩)] 47)∧Hid (Blk wr bh [.pointer (some ⟨hp,0,none⟩)] 29)∧Hid (Below w.heap.size w wr)
theorem zoz.intro {ci kp hp q p:Nat} {b:List UInt8} {ss:List Str} {w:World} {x:Act} {wr:World} (bh bc:Nat) (hx:x=zol bh bc (fun i=>x.tmps.getD i undef)) (h1:zoe wr ci kp q p (zqx b)) (h2:Head wr hp q p ss) (h3:Blk wr bc [.pointer (some ⟨ci,0,none⟩)] 47) (h4:Blk wr bh [.pointer (some ⟨hp,0,none⟩)] 29) (h5:Below w.heap.size w wr):zoz ci kp hp q p b ss w x wr :=
 ⟨_,bh,bc,hx,h1,h2,h3,h4,h5⟩
theorem zpi {ss:List Str} {i:Nat} {s:Str} (h:ss[i]? = some s):(rowOf ss).drop i=s.bs::(rowOf ss).drop (i+1):=by
 have h1:=(kT.1 h).1
 rw [List.drop_eq_getElem_cons (by simpa [rowOf] using h1)]
 simp [rowOf,(kT.1 h).2]
def Finds (w':World) (o:Option (List UInt8×Nat)) (e:Ending):Prop:=match o with
 | some (m,n)=>∃ ao,e=.returned (.tuple #[.slice ao m.length m.length,.int .i64 (n:Int),.int .i64 0])∧zr w' ao (m.map B)
 | none=>e=.returned (.tuple #[.slice none 0 0,.int .i64 0,.int .i64 17])
theorem zom:(Tryz.prog.info? 47).map (·.zero)=some (some (.pointer none)):=by kernel_rfl
theorem zon:(Tryz.prog.info? 47).map (·.size)=some 1:=by kernel_rfl
attribute [local go_sem] Option.isNone_none
theorem zqc (hp q p:Nat) (ss:List Str) (ao:Option Addr) (np cp:Nat) (b:List UInt8) (w:World) (hh:Head w hp q p ss) (hg:qD w) (hlen:∀ s∈ss,s.bs.length=0∨17≤s.bs.length∧s.bs.length≤80)
  (hb:b.length=np) (h0:0 < np) (h1:np≤128) (hc:np≤cp) (hl:zr w ao (b.map B)) :
  Calls Tryz.prog 20 #[.pointer (some ⟨hp,0,none⟩),.slice ao np cp] w fun e w'=>Finds w' (zov b (rowOf ss)) e∧Below w.heap.size w w':=by
 obtain ⟨fo,hfo⟩:∃ fo,fo=zov b (rowOf ss):=⟨_,rfl⟩
 have HFO:=znq (show zn4 b 0 (rowOf ss)=fo∧True from ⟨hfo.symm,trivial⟩)
 rw [← hfo]
 have HH:=znq hh
 have HG:=znq hg
 have HLEN:=znq hlen
 have HNB:=znq hb
 have HL:=znq hl
 have HS:=znq (St.start w)
 clear hh hg hlen hb hl hfo
 go_enter Tryz.func20,Tryz.ntmps20
 go_wp2_with (refine zh 29 _ ([.pointer (some ⟨hp,0,none⟩)]) _ rfl rfl rfl rfl ?_)
 intro w1 hb hbel;have HS:=znq (HS.znr.push hb hbel);have hlt1:=hb.lt;clear hb hbel
 generalize hbb:w.heap.size=bb at *
 have HBB:=znq hbb
 clear hbb
 have hc1:=(HS.znr.get 0 rfl).cell 0 _ rfl
 have hcq:=(HH.znr.later (HS.znr.old HBB.znr)).YE
 go_wp2_with fail
 refine yd 0 (fun x wr=>∃ ci kp,zoz ci kp hp q p b ss w x wr) (fun _ _=>0) rfl ?_ ?_
 ·simp only [q9]
  go_wp2_with fail
  refine (zoo q p ao np cp b _ HNB.znr h0 h1 hc (HL.znr.below (HS.znr.old HBB.znr)) (HH.znr.later (HS.znr.old HBB.znr)).tab (HG.znr.below (HS.znr.old HBB.znr))).mono ?_
  rintro e w2 ⟨ci,kp,rfl,hci,hbel⟩
  have HC:=znq hci
  have HS:=znq (HS.znr.later hbel)
  have hz2:bb < w2.heap.size:=(HS.znr.get 0 rfl).lt
  clear hci hbel hc1 hcq
  go_wp2_with (refine ze 47 [.pointer none] _ rfl rfl zom rfl ?_)
  intro w3 hb hbel;have HS:=znq (HS.znr.push hb hbel);have HB3:=znq hbel;have hlt3:=hb.lt;clear hb hbel
  go_wp2_with (refine (HS.znr.get 0 rfl).ry (v:=.pointer (some ⟨ci,0,none⟩)) rfl rfl rfl rfl zon rfl rfl (by simp) ?_)
  intro w4 hb4 ho4
  have HC:=znq (HC.znr.later (zk HB3.znr ho4 (xc _)))
  have HS:=znq (show St w bb w4 [(w2.heap.size,[.pointer (some ⟨ci,0,none⟩)],47),(bb,[.pointer (some ⟨hp,0,none⟩)],29)] from HS.znr.change 0 hb4 ho4 (by omega) (by simp;omega))
  clear hb4 ho4 HB3
  go_wp2
  exact ⟨ci,kp,zoz.intro bb w2.heap.size rfl HC.znr (HH.znr.later (HS.znr.old HBB.znr)) (HS.znr.get 0 rfl) (HS.znr.get 1 rfl) (HS.znr.old HBB.znr)⟩
 ·clear HS HL HNB HH hc1 hcq
  rintro x wl ⟨ci,kp,us,bh,bc,rfl,HC,HH,HBC,HBH,HBL⟩
  have hbh0:=HBH.znr.cell 0 _ rfl
  have hix:=fun (w:World) (i:Nat) (s:Str) (hs:ss[i]? = some s) (hlt:i < 8)=>qF (P:=Tryz.prog) w 104 22 8 (ss.map Str.val).toArray .i64 i s.val Tryz.underlying104 zoy jQ (zqa hs) hlt
  have HIX:=znq hix
  have HSZ:=znq (show (ss.map Str.val).toArray.size=8 by simp [HH.znr.len])
  have HR:=znq HH.znr.range
  obtain ⟨V,hV⟩:∃ V,V=(ss.map Str.val).toArray:=⟨_,rfl⟩
  rw [← hV] at HIX HSZ
  clear hix
  simp only [zol]
  go_wp2_with (refine wpList_load_mid rfl 104 (.tmp 30) rfl hp 1 rfl (ss.map Str.val) _ HR.znr Tryz.underlying104 rfl (by rw [zor];simp [HH.znr.len]) ?_)
  rw [← hV]
  clear hV hbh0
  go_wp2
  go_loopw [32] (fun c wr=>∃ i:Nat,i≤8∧c=.int .i64 i∧Hid (zn4 b i ((rowOf ss).drop i)=fo∧True)∧Hid (Below wl.heap.size wl wr)) (fun c _=>8 - (intOf c).toNat)
  case atStart=>exact ⟨0,by omega,rfl,HFO,znq (Below.refl _ _)⟩
  case round =>
   clear HFO
   obtain ⟨i,hi,rfl,HFO,HB⟩:=hrel
   by_cases hlt:i < 8
   ·obtain ⟨s,hs⟩:∃ s,ss[i]? = some s:=⟨ss[i]'(by rw [HH.znr.len];exact hlt),by simp⟩
    have hx:=fun w=>HIX.znr w i s hs hlt
    unfold Str.val at hx
    have hq:=fun (w:World)=>Vp (P:=Tryz.prog) w 22 5 s.a s.bs.length s.cap Tryz.underlying22
    have hfd:(rowOf ss).drop i=s.bs::(rowOf ss).drop (i+1):=zpi hs
    rw [hfd,zn4] at HFO
    have hnil:=HH.znr.nil s (xU hs)
    have hle:=HLEN.znr s (xU hs)
    have HIN:=znq (HH.znr.each s (xU hs))
    have HSI:=znq hs
    by_cases h0:s.bs.length=0
    ·rw [hnil h0,h0] at hx hq
     simp only [wE] at hq
     rw [if_pos h0] at HFO
     clear hs hnil hfd
     go_wp2
     go_roundw
     case rel=>exact ⟨i+1,by omega,by go_num,HFO,HB⟩
     case measure=>simp [intOf];omega
    ·obtain ⟨sb,so,hsa,_,_⟩:=HIN.znr.lies.at (by intro e;simp at e;rw [e] at h0;exact h0 rfl)
     rw [hsa] at hx hq
     simp only [Option.isNone_some] at hq
     rw [if_neg h0] at HFO
     have HLE:=znq (show 17≤s.bs.length∧s.bs.length≤80 by omega)
     clear hs hnil hfd hsa hle
     go_wp2_with fail
     refine (zpy bc bh ci kp hp q p i b ss s _ (HC.znr.later HB.znr) (HH.znr.later HB.znr) hlt HSI.znr HLE.znr.1 HLE.znr.2 (HBC.znr.below HB.znr HBC.znr.lt) (HBH.znr.below HB.znr HBH.znr.lt)).mono ?_
     rintro e w5 ⟨hop,hbel⟩
     have HB:=znq (HB.znr.trans (hbel.mono HB.znr.size))
     obtain ⟨o,ho⟩:∃ o,o=zo6 i b s.bs:=⟨_,rfl⟩
     rw [← ho] at hop HFO
     clear ho hbel
     cases o with
     | none =>
      obtain rfl:e=_:=hop
      have HFO:=znq (show zn4 b (i+1) ((rowOf ss).drop (i+1))=fo∧True from HFO.znr)
      go_wp2
      go_roundw
      case rel=>exact ⟨i+1,by omega,by go_num,HFO,HB⟩
      case measure=>simp [intOf];omega
     | some m =>
      obtain ⟨am,rfl,hlm⟩:=hop
      have HLM:=znq hlm
      have HFO:=znq (show some (m,i)=fo∧True from HFO.znr)
      clear hlm
      go_wp2
      rw [Exit.nZ]
      go_ret3
      rw [← HFO.znr.1]
      exact ⟨⟨am,rfl,HLM.znr⟩,by first | exact HBL.znr.trans (HB.znr.mono HBL.znr.size) | (rw [← HBB.znr];exact HBL.znr.trans (HB.znr.mono HBL.znr.size))⟩
   ·obtain rfl:i=8:=by omega
    have HFO:=znq (show none=fo∧True from ⟨by rw [← HFO.znr.1,List.drop_of_length_le (by simp [rowOf,HH.znr.len])];rfl,trivial⟩)
    go_wp2
    rw [Exit.nZ]
    go_ret3
    rw [← HFO.znr.1]
    exact ⟨rfl,by first | exact HBL.znr.trans (HB.znr.mono HBL.znr.size) | (rw [← HBB.znr];exact HBL.znr.trans (HB.znr.mono HBL.znr.size))⟩
end Go.Proofs.YtamdifhibogdiaaGreatDoor
namespace Go.Slot
end Go.Slot
namespace Go.Proofs.YtamdifhibogdiaaGreatDoor
open RowKit Mem Ops Cells Oct Gf Trn Aes Ring Ezk Ezh Ezt Aez Blake ru Fl Slot
attribute [local irreducible] zE zN zO zM yu
end Go.Proofs.YtamdifhibogdiaaGreatDoor
namespace Go.Cells
open RowKit
section
variable {P:Program} {ops:Array Oper} {Q:Exit→Act→World→Prop}
end
end Go.Cells
namespace Go.Proofs.YtamdifhibogdiaaGreatDoor
open RowKit Mem Ops Cells Oct Gf Trn Aes Ring Ezk Ezh Ezt Aez Blake ru Fl Slot
attribute [local irreducible] zE zN zO zM yu
end Go.Proofs.YtamdifhibogdiaaGreatDoor
namespace Go.Open
open RowKit Mem Ops Cells Oct ChangeShapes WideShapes
structure zln (n:Nat) (w:World) (ao:Option Addr) (vs:List (List Value)):Prop where
 each:∀ v∈vs,v.length=n
 lies:zr w ao vs.flatten
theorem zdx (n:Nat):∀ (vs:List (List Value)) (i j:Nat) (v:List Value),(∀ v∈vs,v.length=n)→vs[i]? = some v→j < n→vs.flatten[n*i+j]? = v[j]?
 | [],i,j,v,_,hi,_=>by cases hi
 | x::vs,0,j,v,hv,hi,hj=>by
  simp at hi;subst hi
  have:=hv x (by simp)
  rw [uF,Nat.mul_zero,bH,List.getElem?_append_left (by omega)]
 | x::vs,i+1,j,v,hv,hi,hj=>by
  have:=hv x (by simp)
  rw [List.getElem?_cons_succ] at hi
  rw [uF,List.getElem?_append_right (by rw [fJ];omega),this,show n*(i+1)+j - n=n*i+j by rw [fJ];omega]
  exact zdx n vs i j v (fun u hu=>hv u (List.mem_cons_of_mem _ hu)) hi hj
theorem zln.range {n:Nat} {w:World} {ao:Option Addr} {vs:List (List Value)} (h:zln n w ao vs) (hn:0 < n) {i:Nat} {v:List Value} (hi:vs[i]? = some v) :
  ∃ b off,ao=some ⟨b,off,none⟩∧b < w.heap.size∧w.rangeAt b (off+i*n) v:=by
 have hk:=h.each v (xU hi)
 have hat:∀ j u,v[j]? = some u→vs.flatten[n*i+j]? = some u:=fun j u hu=>by
  have hj:j < n:=by
   rcases Nat.lt_or_ge j n with h | h
   ·exact h
   ·rw [List.getElem?_eq_none (by omega)] at hu;cases hu
  rw [zdx n vs i j v h.each hi hj]
  exact hu
 obtain ⟨b,off,rfl,hc⟩:=h.lies _ _ (hat 0 (v[0]'(by omega)) (by simp))
 refine ⟨b,off,rfl,block_lt_of_cell hc,fun j u hu=>?_⟩
 obtain ⟨b',off',e,hc'⟩:=h.lies _ _ (hat j u hu)
 cases e
 rw [show off+i*n+j=off+(n*i+j) by rw [Nat.mul_comm i n];omega]
 exact hc'
def Fit (n:Int):Prop:=-9223372036854775808≤n∧n≤9223372036854775807
theorem open_bytes {H:Type} {enc:TypeId×Value→H} {P:Program} {w:World} {base:Nat} {spare:Nat→Bool} {held:Bool} {t e:TypeId} {fuel:Nat} {cs:List Value} {x:DataW H×List MemPlace}
  (ht:P.underlying t=some (.slice e)) (he:P.underlying e=some (.int .u8)) (hc:P.cellsOf e=1) (h:DataW.trod enc P w base spare held fuel t cs=some x) :
  ∃ (ao:Option Addr) (cap:Nat) (bs:List UInt8),cs=[.slice ao bs.length cap]∧bs.length≤cap∧cap≤maxLen∧zr w ao (bs.map B):=by
 rcases open_ints ht he hc h with ⟨rfl,_⟩ | ⟨x,l,c,zs,rfl,_,hl,hm,hz,_,hcell,hwz⟩
 ·exact ⟨none,0,[],rfl,xc _,by simp [maxLen],zr.nil _ _⟩
 ·have hz':l≤zs.length:=by rw [hz];split <;> omega
  obtain ⟨bs,h1,h2,h3,h4⟩:=Go.Mem.bytes_of_row (w:=w) (a:=some x) (len:=l) (cap:=zs.length) (zs:=zs)
   (.inr ⟨x,rfl,hz',by rw [hz];split <;> omega,rfl,hcell,hwz⟩)
  exact ⟨some x,c,bs,by rw [h1],by omega,hm,h4⟩
structure zdy where
 d:Int
 n:Int
 po:Option Addr
 pc:Nat
 p:List UInt8
 so:Option Addr
 sc:Nat
 s:List UInt8
def zdy.vals (x:zdy):List Value:=[.int .i64 x.d,.int .i64 x.n,.slice x.po x.p.length x.pc,.slice x.so x.s.length x.sc]
structure zdy.In (w:World) (x:zdy):Prop where
 d:Fit x.d
 n:Fit x.n
 p:zr w x.po (x.p.map B)
 s:zr w x.so (x.s.map B)
 pc:x.p.length≤x.pc∧x.pc≤maxLen
 sc:x.s.length≤x.sc∧x.sc≤maxLen
structure zlo (w:World) (ao:Option Addr) (xs:List zdy):Prop where
 rows:zln 4 w ao (xs.map zdy.vals)
 each:∀ x∈xs,x.In w
theorem zlo.at {w:World} {ao:Option Addr} {xs:List zdy} (h:zlo w ao xs) {i:Nat} {x:zdy} (hi:xs[i]? = some x) :
  x.In w∧∃ b off,ao=some ⟨b,off,none⟩∧b < w.heap.size∧w.rangeAt b (off+i*4) x.vals :=
 ⟨h.each x (xU hi),h.rows.range (by omega) (by simp [hi])⟩
end Go.Open
namespace Go.Slot
open Ops Oct Gf Trn Aes Ring Ezk Ezh Ezt Ezc Blake Aez Open
def zog (n:Int) (pass secret:List UInt8):Int :=
 if n < 0∨8≤n then 16 else if pass.length=0∨128 < pass.length then 2 else if secret.length=0 then 7 else if 64 < secret.length then 6 else 0
def zoa (s:Hdr) (n:Int) (pass secret:List UInt8):Hdr:=if zog n pass secret=0 then s.set n.toNat (zn2 n.toNat pass secret) else s
def zpz (s:Hdr) (n:Int):Hdr:=if n < 0∨8≤n then s else s.set n.toNat []
theorem pg.set {s:Hdr} {b:List UInt8} (h:pg s) (i:Nat) (hb:b.length=0∨17≤b.length∧b.length≤80):pg (s.set i b):=by
 intro x hx
 rcases List.mem_or_eq_of_mem_set hx with hx | rfl
 ·exact h x hx
 ·exact hb
theorem zpp {n:Int} {pass secret:List UInt8} (h:zog n pass secret=0):0≤n∧n < 8∧0 < pass.length∧pass.length≤128∧0 < secret.length∧secret.length≤64:=by
 unfold zog at h
 split at h
 ·omega
 ·split at h
  ·omega
  ·split at h
   ·omega
   ·split at h
    ·omega
    ·omega
theorem pg.lay {s:Hdr} (h:pg s) (n:Int) (pass secret:List UInt8):pg (zoa s n pass secret):=by
 unfold zoa
 split
 ·next h0 =>
  have:=zpp h0
  exact h.set _ (.inr (by rw [zn6];omega))
 ·exact h
theorem pg.clear {s:Hdr} (h:pg s) (n:Int):pg (zpz s n):=by
 unfold zpz
 split
 ·exact h
 ·exact h.set _ (.inl rfl)
theorem pg.empty:pg zn9:=by
 intro x hx
 obtain rfl:=List.eq_of_mem_replicate hx
 exact .inl rfl
theorem zok (pass secret:List UInt8):∀ (r:Hdr) (n j:Nat),r[j]? = some (zn2 (n+j) pass secret)→(∀ i,i < j→r[i]? = some [])→zn4 pass n r=some (secret,n+j)
 | [],n,j,h,_=>by simp at h
 | b::r,n,0,h,_=>by
  simp at h
  subst h
  rw [zn4,if_neg (by rw [zn6];omega),zpg]
  rfl
 | b::r,n,j+1,h,he=>by
  simp at h
  have h0:=he 0 (by omega)
  simp at h0
  subst h0
  rw [zn4,if_pos (show ([]:List UInt8).length=0 from List.length_nil),zok pass secret r (n+1) j (by rw [h,show n+1+j=n+(j+1) by omega]) (fun i hi=>by have:=he (i+1) (by omega);simpa using this)]
  congr 2
  omega
theorem zpa {s:Hdr} {k:Nat} {pass secret:List UInt8} (h:s[k]? = some (zn2 k pass secret)) (he:∀ i,i < k→s[i]? = some []):zov pass s=some (secret,k):=by
 have:=zok pass secret s 0 k (by rw [bH];exact h) he
 rwa [bH] at this
end Go.Slot
namespace Go.Proofs.YtamdifhibogdiaaGreatDoor
open RowKit Mem Ops Cells Oct Gf Trn Aes Ring Ezk Ezh Ezt Aez Blake ru Fl Slot Open
attribute [local irreducible] zE zN zO zM yu
instance (w:World):Nonempty (xR (fun u v=>Below u.heap.size u v) w):=⟨⟨w,Below.refl _ _⟩⟩
theorem zoc (hp:Nat) (n:Int) (w:World):Calls Tryz.prog 53 #[.pointer (some ⟨hp,0,none⟩),.int .i64 n] w fun e w'=>e=.returned (.bool (decide (0≤n∧n < 8)))∧w=w':=by
 by_cases h0:n < 0
 ·have d0:decide (n≥0)=false:=by simp;omega
  have d1:decide (0≤n∧n < 8)=false:=by simp;omega
  rw [d1]
  go_enter Tryz.func53,Tryz.ntmps53
  go_wp2
  go_ret
  exact ⟨rfl,rfl⟩
 ·have d0:decide (n≥0)=true:=by simp;omega
  by_cases h8:n < 8
  ·have d1:decide (0≤n∧n < 8)=true:=by simp;omega
   have d2:decide (n < 8)=true:=by simp;omega
   rw [d1]
   go_enter Tryz.func53,Tryz.ntmps53
   go_wp2
   go_ret
   exact ⟨rfl,rfl⟩
  ·have d1:decide (0≤n∧n < 8)=false:=by simp;omega
   have d2:decide (n < 8)=false:=by simp;omega
   rw [d1]
   go_enter Tryz.func53,Tryz.ntmps53
   go_wp2
   go_ret
   exact ⟨rfl,rfl⟩
theorem zpq (ss:List Str) (i:Nat) (s:Str):rowOf (ss.set i s)=(rowOf ss).set i s.bs:=by unfold rowOf;rw [List.map_set]
theorem zn5.of_below {hp:Nat} {w w':World} (h:Below w.heap.size w w'):zn5 hp w w':=⟨w',h,Only.refl _ _⟩
theorem zpl (hp q p:Nat) (ss:List Str) (n:Int) (ao:Option Addr) (np cp:Nat) (b:List UInt8) (so:Option Addr) (ns cs:Nat) (m:List UInt8) (w:World) (hh:Head w hp q p ss) (hg:qD w)
  (hb:b.length=np) (h1:np≤1000) (hc:np≤cp) (hl:zr w ao (b.map B)) (hm:m.length=ns) (hm1:ns≤1000) (hmc:ns≤cs) (hlm:zr w so (m.map B)) :
  Calls Tryz.prog 19 #[.pointer (some ⟨hp,0,none⟩),.int .i64 n,.slice ao np cp,.slice so ns cs] w fun e w'=>e=.returned (.int .i64 (zog n b m))∧(∃ ss',Head w' hp q p ss'∧rowOf ss'=zoa (rowOf ss) n b m)∧zn5 hp w w':=by
 by_cases hn:n < 0∨8≤n
 ·have e1:zog n b m=16:=by unfold zog;rw [if_pos hn]
  have e2:zoa (rowOf ss) n b m=rowOf ss:=by unfold zoa;rw [if_neg (by omega)]
  have d1:decide (0≤n∧n < 8)=false:=by simp;omega
  have HH:=znq hh
  rw [e1,e2]
  clear hg hl hlm hb hm e1 e2 hh
  go_enter Tryz.func19,Tryz.ntmps19
  go_wp2_with fail
  refine (zoc hp n _).mono ?_
  rintro e w1 ⟨rfl,rfl⟩
  go_wp2
  go_ret
  exact ⟨rfl,⟨ss,HH.znr,rfl⟩,zn5.of_below (Below.refl _ _)⟩
 ·have d1:decide (0≤n∧n < 8)=true:=by simp;omega
  by_cases hp0:np=0∨128 < np
  ·have e1:zog n b m=2:=by unfold zog;rw [if_neg hn,if_pos (by rw [hb];exact hp0)]
   have e2:zoa (rowOf ss) n b m=rowOf ss:=by unfold zoa;rw [if_neg (by omega)]
   have HH:=znq hh
   have hcq:=hh.YE
   rw [e1,e2]
   clear hg hl hlm hb hm e1 e2 hh
   go_enter Tryz.func19,Tryz.ntmps19
   go_wp2_with fail
   refine (zoc hp n _).mono ?_
   rintro e w1 ⟨rfl,rfl⟩
   go_wp2_with fail
   refine (zo3 q ao np cp _ hp0).mono ?_
   rintro e w1 ⟨rfl,rfl⟩
   go_wp2
   go_ret
   exact ⟨rfl,⟨ss,HH.znr,rfl⟩,zn5.of_below (Below.refl _ _)⟩
  ·by_cases hs0:ns=0∨64 < ns
   ·have e1:zog n b m=if ns=0 then 7 else 6:=by
     unfold zog
     rw [if_neg hn,if_neg (by rw [hb];exact hp0),hm]
     split
     ·rfl
     ·rw [if_pos (by omega)]
    have e2:zoa (rowOf ss) n b m=rowOf ss:=by unfold zoa;rw [if_neg (by rw [e1];split <;> omega)]
    have HH:=znq hh
    have HG:=znq hg
    have HNB:=znq hb
    have HL:=znq hl
    have hcq:=hh.YE
    rw [e1,e2]
    clear hg hl hlm hb hm e1 e2 hh
    by_cases hz:ns=0
    ·rw [if_pos hz]
     subst hz
     go_enter Tryz.func19,Tryz.ntmps19
     go_wp2_with fail
     refine (zoc hp n _).mono ?_
     rintro e w1 ⟨rfl,rfl⟩
     go_wp2_with fail
     refine (zoo q p ao np cp b _ HNB.znr (by omega) (by omega) hc HL.znr HH.znr.tab HG.znr).mono ?_
     rintro e w2 ⟨ci,kp,rfl,hci,hbel⟩
     have HB:=znq hbel
     clear hci hbel hcq
     go_wp2
     go_ret
     exact ⟨rfl,⟨ss,HH.znr.later HB.znr,rfl⟩,zn5.of_below HB.znr⟩
    ·rw [if_neg hz]
     have d2:((ns:Int)==0)=false:=by simp;omega
     have d3:decide ((ns:Int) > 64)=true:=by simp;omega
     go_enter Tryz.func19,Tryz.ntmps19
     go_wp2_with fail
     refine (zoc hp n _).mono ?_
     rintro e w1 ⟨rfl,rfl⟩
     go_wp2_with fail
     refine (zoo q p ao np cp b _ HNB.znr (by omega) (by omega) hc HL.znr HH.znr.tab HG.znr).mono ?_
     rintro e w2 ⟨ci,kp,rfl,hci,hbel⟩
     have HB:=znq hbel
     clear hci hbel hcq
     go_wp2
     go_ret
     exact ⟨rfl,⟨ss,HH.znr.later HB.znr,rfl⟩,zn5.of_below HB.znr⟩
   ·have e1:zog n b m=0:=by
     unfold zog
     rw [if_neg hn,if_neg (by rw [hb];exact hp0),if_neg (by omega),if_neg (by omega)]
    obtain ⟨k,rfl⟩:∃ k:Nat,n=k:=⟨n.toNat,by omega⟩
    have e2:zoa (rowOf ss) (k:Int) b m=(rowOf ss).set k (zn2 k b m):=by unfold zoa;rw [if_pos e1];rfl
    rw [e1,e2]
    refine (QW hp q p ss k ao np cp b so ns cs m w hh hg (by omega) hb (by omega) (by omega) hc hl hm (by omega) (by omega) hmc hlm).mono ?_
    rintro e w' ⟨rfl,⟨s,h2,h3⟩,h4⟩
    exact ⟨rfl,⟨_,h2,by rw [zpq,h3]⟩,h4⟩
def zos (w':World) (b:List UInt8) (s:Hdr) (e:Ending):Prop :=
 if b.length=0∨128 < b.length then e=.returned (.tuple #[.slice none 0 0,.int .i64 0,.int .i64 2]) else Finds w' (zov b s) e
theorem zp0 (hp q p:Nat) (ss:List Str) (ao:Option Addr) (np cp:Nat) (b:List UInt8) (w:World) (hh:Head w hp q p ss) (hg:qD w) (hk:pg (rowOf ss))
  (hb:b.length=np) (h1:np≤1000) (hc:np≤cp) (hl:zr w ao (b.map B)) :
  Calls Tryz.prog 20 #[.pointer (some ⟨hp,0,none⟩),.slice ao np cp] w fun e w'=>zos w' b (rowOf ss) e∧Below w.heap.size w w':=by
 by_cases hp0:np=0∨128 < np
 ·have HH:=znq hh
  have HS:=znq (St.start w)
  have HE:=znq (show ∀ w' e,zos w' b (rowOf ss) e↔e=.returned (.tuple #[.slice none 0 0,.int .i64 0,.int .i64 2]) from fun w' e=>by unfold zos;rw [if_pos (by rw [hb];exact hp0)])
  have hcq:=hh.YE
  clear hg hl hb hh hk
  go_enter Tryz.func20,Tryz.ntmps20
  go_wp2_with (refine zh 29 _ ([.pointer (some ⟨hp,0,none⟩)]) _ rfl rfl rfl rfl ?_)
  intro w1 hb hbel;have HS:=znq (HS.znr.push hb hbel);have hlt1:=hb.lt;clear hb hbel
  generalize hbb:w.heap.size=bb at *
  have HBB:=znq hbb
  clear hbb
  have hc1:=(HS.znr.get 0 rfl).cell 0 _ rfl
  have hcq:=(HH.znr.later (HS.znr.old HBB.znr)).YE
  go_wp2_with fail
  refine yd 0 (fun x wr=>False) (fun _ _=>0) rfl ?_ (fun _ _ h=>h.elim)
  simp only [q9]
  go_wp2_with fail
  refine (zo3 q ao np cp _ hp0).mono ?_
  rintro e w2 ⟨rfl,rfl⟩
  go_wp2_with (refine ze 47 [.pointer none] _ rfl rfl zom rfl ?_)
  intro w3 hb hbel;have HS:=znq (HS.znr.push hb hbel);have hlt3:=hb.lt;clear hb hbel
  go_wp2_with (refine (HS.znr.get 0 rfl).ry (v:=.pointer none) rfl rfl rfl rfl zon rfl rfl (by simp) ?_)
  intro w4 hb4 ho4
  have nD:=zk HS.znr.bel ho4 (by omega)
  go_wp2
  first | go_ret3 | (rw [Exit.nZ];go_ret3)
  exact ⟨(HE.znr _ _).2 rfl,by rw [HBB.znr];exact nD⟩
 ·refine (zqc hp q p ss ao np cp b w hh hg (fun s hs=>hk s.bs (List.mem_map.2 ⟨s,hs,rfl⟩)) hb (by omega) (by omega) hc hl).mono ?_
  rintro e w' ⟨h2,h3⟩
  refine ⟨?_,h3⟩
  unfold zos
  rw [if_neg (by rw [hb];exact hp0)]
  exact h2
end Go.Proofs.YtamdifhibogdiaaGreatDoor

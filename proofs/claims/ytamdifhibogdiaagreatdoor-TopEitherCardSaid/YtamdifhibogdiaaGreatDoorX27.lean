/-
  Texts of this claim, one behind the other.
-/
import Derived.Test.YtamdifhibogdiaaGreatDoorX1
import Derived.Test.YtamdifhibogdiaaGreatDoorX21
import Derived.Test.YtamdifhibogdiaaGreatDoorX25
import Derived.Test.YtamdifhibogdiaaGreatDoorX26
import Derived.Lib.Hide
set_option linter.unusedVariables false
set_option linter.unusedSimpArgs false
set_option maxHeartbeats 16000000
set_option maxRecDepth 100000
open List renaming replicate→wh
open Nat renaming le_refl→xc
namespace Go.Proofs.YtamdifhibogdiaaGreatDoor
open RowKit Mem Ops Cells Oct Gf Trn Aes Ring Ezk Blake Adi Hct Wid Vol Slot Aez Fl ru
attribute [local irreducible] zE zN zO zM yu
def zpc (b:List UInt8) (s:Hdr):List UInt8×Int×Int :=
 if b.length=0∨128 < b.length then ([],0,2) else match zov b s with
  | some (m,n)=>(m,(n:Int),0)
  | none=>([],0,17)
theorem zp1 (hp q p:Nat) (ss:List Str) (ao:Option Addr) (np cp:Nat) (b:List UInt8) (m:List UInt8) (n f:Int) (w:World) (hh:Head w hp q p ss) (hg:qD w) (hk:pg (rowOf ss))
  (hb:b.length=np) (h1:np≤1000) (hc:np≤cp) (hl:zr w ao (b.map B)) (ht:zpc b (rowOf ss)=(m,n,f)) :
  Calls Tryz.prog 20 #[.pointer (some ⟨hp,0,none⟩),.slice ao np cp] w fun e w'=>(∃ ao,e=.returned (.tuple #[.slice ao m.length m.length,.int .i64 n,.int .i64 f])∧zr w' ao (m.map B))∧Below w.heap.size w w':=by
 refine (zp0 hp q p ss ao np cp b w hh hg hk hb h1 hc hl).mono ?_
 rintro e w' ⟨h2,h3⟩
 refine ⟨?_,h3⟩
 unfold zos at h2
 unfold zpc at ht
 split at h2
 ·rename_i hbad
  rw [if_pos hbad] at ht
  cases ht
  exact ⟨none,h2,zr.nil _ _⟩
 ·rename_i hbad
  rw [if_neg hbad] at ht
  cases hf:zov b (rowOf ss) with
  | none =>
   rw [hf] at h2 ht
   cases ht
   exact ⟨none,h2,zr.nil _ _⟩
  | some x =>
   obtain ⟨m',n'⟩:=x
   rw [hf] at h2 ht
   cases ht
   exact h2
theorem zpd {s:Hdr} {k:Nat} {pass secret:List UInt8} (h0:0 < pass.length) (h1:pass.length≤128) (h:s[k]? = some (zn2 k pass secret)) (he:∀ i,i < k→s[i]? = some []):zpc pass s=(secret,(k:Int),0):=by
 unfold zpc
 rw [if_neg (by omega),zpa h he]
theorem Head.QX {w w':World} {hp q p gp q2 p2:Nat} {ss gs:List Str} (hg:Head w gp q2 p2 gs) (hh:Head w hp q p ss) (hw:zn5 hp w w') (hne:gp≠hp):Head w' gp q2 p2 gs:=by
 obtain ⟨w1,hb,ho⟩:=hw
 have h1:=hh.later hb
 have g1:=hg.later hb
 have hB:∀ x:UInt8,B x∉zn3 q ss:=by
  intro x hx
  simp [zn3] at hx
  obtain ⟨t,_,ht⟩:=hx
  exact zo8 t x ht.symm
 exact ⟨g1.tab.only ho (g1.tab.boxes.ne h1.blk (by decide)) (g1.tab.tab.ne h1.blk (by decide)),g1.blk.only ho hne,g1.len,fun s hs=>(g1.each s hs).only h1.blk hB ho,g1.nil⟩
theorem zpm {w0 w w':World} {base b:Nat} {L:List (Nat×List Value×TypeId)} (h:St w0 base w L) (hw:zn5 b w w') (hb:base≤b) (hne:∀ e∈L,e.1≠b):St w0 base w' L:=by
 obtain ⟨w1,h1,ho⟩:=hw
 exact (h.later h1).ziW (zI.nH ho) hb hne
theorem zow {b:Nat} {w w':World} (hw:zn5 b w w'):w.heap.size≤w'.heap.size:=by
 obtain ⟨w1,h1,ho⟩:=hw
 exact Nat.le_trans h1.size (Nat.le_of_eq ho.size.symm)
theorem zpe {k:Nat} {pass secret:List UInt8} (hk:k < 8) (h0:0 < pass.length∧pass.length≤128) (h1:0 < secret.length∧secret.length≤64) :
  zog (k:Int) pass secret=0∧pg (zoa zn9 (k:Int) pass secret)∧zpc pass (zoa zn9 (k:Int) pass secret)=(secret,(k:Int),0):=by
 have e:zog (k:Int) pass secret=0:=by unfold zog;rw [if_neg (by omega),if_neg (by omega),if_neg (by omega),if_neg (by omega)]
 refine ⟨e,pg.lay pg.empty _ _ _,?_⟩
 have hl:zoa zn9 (k:Int) pass secret=zn9.set k (zn2 k pass secret):=by unfold zoa;rw [if_pos e];rfl
 rw [hl]
 refine zpd h0.1 h0.2 (List.getElem?_set_self (by show k < 8;exact hk)) (fun i hi=>?_)
 rw [List.getElem?_set_ne (by omega)]
 unfold zn9
 rw [List.getElem?_replicate,if_pos (by omega)]
theorem zpr {F:List Nat} {q vp sp vo so:Nat} {w w':World} {v:Vol} {load:Value} {np:Nat} {xp:Value} (h:y4 117 F w q vp sp v load np xp) (hc:Chg vo so w w') (hin:vo∈F∧so∈F) (h1:vp≠vo∧vp≠so) (h2:sp≠vo∧sp≠so):y4 117 F w' q vp sp v load np xp :=
 have hu:=hc.up hin
 ⟨h.pq,h.ne,h.inF,h.cells.chg hc h1.1 h1.2,h.store.chg hc h2.1 h2.2,h.now.at hu,h.next.imp fun _ k=>k.at hu⟩
theorem zqd {alg:Int} {size mK n:Nat} {key:List UInt8} (h1:16≤size) (hn:n < mK):zih size (zim alg size mK key).store n=xM (jy alg key) (zgn n) (zf size) false:=by
 show zih size (zri _ _ _ _) n=_
 rw [zro (zd _) (znp alg key h1).least _ (xc _),if_pos hn,zs6 hn]
theorem zps {alg:Int} {N k:Nat} {key:List UInt8} (h1:16≤N∧N≤4096) (hk:k < 3):zih N ((zim alg N 3 key).put 1 (zf N)).store k=zih N (zim alg N 3 key).store k:=by
 have h:=zt5 (m:=k) (zlp (alg:=alg) (key:=key) h1 (show 1≤3∧3≤256 by omega)) (n:=1) (b:=zf N) (show 1 < 3 by omega) (zd _)
 refine h.trans ?_
 split
 ·next e=>subst e;exact (zqd h1.1 (by omega)).symm
 ·rfl
theorem zo0:Row Tryz.prog 24 2:=⟨by kernel_rfl,by kernel_rfl⟩
theorem either_law (alg:Int) (a1:Option Addr) (n1 c1:Nat) (key:List UInt8) (a2:Option Addr) (n2 c2:Nat) (p1:List UInt8) (a3:Option Addr) (n3 c3:Nat) (p2:List UInt8) (sz:UInt8) (w:World)
  (hk:key.length=n1) (hkc:n1≤c1) (hkl:zr w a1 (key.map B)) (hp:p1.length=n2) (hpc:n2≤c2) (hpl:zr w a2 (p1.map B)) (hq:p2.length=n3) (hqc:n3≤c3) (hql:zr w a3 (p2.map B)) (hg:pQ w) (hbg:qD w) :
  Calls Tryz.prog 3 #[.agg #[.int .i64 alg,.slice a1 n1 c1,.slice a2 n2 c2,.slice a3 n3 c3,B sz]] w fun e w'=>e=.returned (.bool true)∧Below w.heap.size w w':=by
 have HS:=znq (St.start w)
 have HK:=znq (And.intro hk hkl)
 have HP:=znq (And.intro hp hpl)
 have HQ:=znq (And.intro hq hql)
 have HG:=znq hg
 have HBG:=znq hbg
 obtain ⟨bm,hbm⟩:∃ b,(decide (n1≤200) && (ko alg n1==0))=b:=⟨_,rfl⟩
 obtain ⟨r1,hr1⟩:∃ b,decide (0 < n2∧n2≤128)=b:=⟨_,rfl⟩
 obtain ⟨r2,hr2⟩:∃ b,decide (0 < n3∧n3≤128)=b:=⟨_,rfl⟩
 have HBM:=znq (And.intro hbm trivial)
 have HR1:=znq (And.intro hr1 trivial)
 have HR2:=znq (And.intro hr2 trivial)
 have Kr:decide ((n1:Int) > 64)=true∨decide ((n1:Int) > 64)=false:=by cases decide ((n1:Int) > 64) <;> simp
 obtain ⟨m,hm⟩:∃ m,m=sz.toNat % 40:=⟨_,rfl⟩
 have hm40:m < 40:=by omega
 obtain ⟨lzn,hzn⟩:∃ lzn,lzn=sz.toNat:=⟨_,rfl⟩
 have em:(lzn:Int).tmod 40=(m:Int):=by rw [Int.tmod_eq_emod_of_nonneg (by omega),hm,hzn];rfl
 show Calls Tryz.prog 3 #[.agg #[.int .i64 alg,.slice a1 n1 c1,.slice a2 n2 c2,.slice a3 n3 c3,.int .u8 (sz.toNat:Int)]] w fun e w'=>e=.returned (.bool true)∧Below w.heap.size w w'
 rw [← hzn]
 have hz255:lzn≤255:=by rw [hzn];have:=sz.toNat_lt;omega
 clear hk hkl hp hpl hq hql hg hbg hbm hr1 hr2 hm hzn
 go_enter Tryz.func3,Tryz.ntmps3
 go_wp2_with (refine zh 26 _ [.int .i64 alg,.slice a1 n1 c1,.slice a2 n2 c2,.slice a3 n3 c3,.int .u8 lzn] _ rfl rfl rfl rfl ?_)
 intro w1 hb hbel;have HS:=znq (HS.znr.push hb hbel)
 have hx0:=(HS.znr.get 0 rfl).cell 0 _ rfl
 have hx1:=(HS.znr.get 0 rfl).cell 1 _ rfl
 have hx2:=(HS.znr.get 0 rfl).cell 2 _ rfl
 have hx3:=(HS.znr.get 0 rfl).cell 3 _ rfl
 have hx4:=(HS.znr.get 0 rfl).cell 4 _ rfl
 have hy0:=fun (x:xR (Below w1.heap.size) w1.drew)=>((x.rel.cell (p:=⟨w.heap.size,0,none⟩) (block_lt_of_cell hx0)).trans hx0)
 have hy1:=fun (x:xR (Below w1.heap.size) w1.drew)=>((x.rel.cell (p:=⟨w.heap.size,1,none⟩) (block_lt_of_cell hx1)).trans hx1)
 have hy2:=fun (x:xR (Below w1.heap.size) w1.drew)=>((x.rel.cell (p:=⟨w.heap.size,2,none⟩) (block_lt_of_cell hx2)).trans hx2)
 have hy3:=fun (x:xR (Below w1.heap.size) w1.drew)=>((x.rel.cell (p:=⟨w.heap.size,3,none⟩) (block_lt_of_cell hx3)).trans hx3)
 have hy4:=fun (x:xR (Below w1.heap.size) w1.drew)=>((x.rel.cell (p:=⟨w.heap.size,4,none⟩) (block_lt_of_cell hx4)).trans hx4)
 clear hb hbel hx0 hx1 hx2 hx3 hx4
 go_wp2
 refine Yh (Below w1.heap.size) [] [(0,true),(1,true),(2,true),(3,true),(4,true),(5,true),(6,true),(7,true),(8,false),(9,false),(10,true),(11,true),(12,true)] (Below.refl w1.heap.size) (fun _ _ _ h k=>h.trans k) (by kernel_rfl) (by kernel_rfl) ?_
 rintro w2 rfl
 iterate 8 refine m1K ?_
 clear hy0 hy1 hy2 hy3 hy4
 refine xL rfl (by rfl) (fun K hK=>?_)
 go_simp
 obtain ⟨w3,hw3⟩:∃ x,x=(w1.alloc (.cells #[.int .i64 0,.slice none 0 0] 24)).drew:=⟨_,rfl⟩
 have hb3:Blk w3 w1.heap.size [.int .i64 0,.slice none 0 0] 24:=by rw [hw3];exact (Blk.new w1 _ _).drew
 have mY:Below w1.heap.size w1 w3:=by rw [hw3];exact (zD w1 _).drew
 have hbr3:Below w1.heap.size w1.drew w3:=⟨mY.os,mY.tape,mY.output,mY.size,mY.block⟩
 rw [← hw3]
 refine hK _ _ (fun _=>hbr3) ?_
 clear hK K hw3 hbr3
 have hz1:w.heap.size < w1.heap.size:=(HS.znr.get 0 rfl).lt
 have hz3:w1.heap.size < w3.heap.size:=hb3.lt
 refine xL rfl (by rfl) (fun K hK=>?_)
 refine hb3.mZ (cs:=[.int .i64 alg,.slice a1 n1 c1]) rfl rfl rfl zo0 rfl rfl (by simp [Value.oneCell']) (fun w4 hb4 ho4=>hK _ _ (fun _=>?_) ?_)
 ·exact zk (Below.refl _ _) ho4 (xc _)
 clear hK K
 go_simp
 iterate 3 refine m1K ?_
 refine kN ?_
 have HS:=znq ((HS.znr.later (zk mY ho4 (xc _))).add hb4)
 have hz4:w3.heap.size=w4.heap.size:=ho4.size.symm
 clear hb3 mY ho4 hb4
 have hl0:=(HS.znr.get 0 rfl).cell 0 _ rfl
 have hl1:=(HS.znr.get 0 rfl).cell 1 _ rfl
 go_wp2_with fail
 refine (zp8 alg a1 n1 c1 _).mono ?_
 rintro e w5 ⟨rfl,hbel⟩
 rw [HBM.znr.1]
 have HS:=znq (HS.znr.later hbel)
 have hz5:=hbel.size
 clear hbel hl0 hl1
 have hl0:=(HS.znr.get 0 rfl).cell 0 _ rfl
 have hl1:=(HS.znr.get 0 rfl).cell 1 _ rfl
 cases bm
 ·go_wp2
  go_ret
  exact ⟨rfl,HS.znr.bel⟩
 go_wp2_with fail
 refine (J3 a2 n2 c2 _).mono ?_
 rintro e w6 ⟨rfl,rfl⟩
 rw [HR1.znr.1]
 cases r1
 ·go_wp2
  go_ret
  exact ⟨rfl,HS.znr.bel⟩
 go_wp2_with fail
 refine (J3 a3 n3 c3 _).mono ?_
 rintro e w6 ⟨rfl,rfl⟩
 rw [HR2.znr.1]
 cases r2
 ·go_wp2
  go_ret
  exact ⟨rfl,HS.znr.bel⟩
 rcases Kr with Kr | Kr
 ·go_wp2
  go_ret
  exact ⟨rfl,HS.znr.bel⟩
 have hn2:0 < n2∧n2≤128:=of_decide_eq_true HR1.znr.1
 have hn3:0 < n3∧n3≤128:=of_decide_eq_true HR2.znr.1
 have hn1:n1≤64:=by have:=of_decide_eq_false Kr;omega
 have HW:=znq (show ko alg n1=0∧True from ⟨by have h:=HBM.znr.1;simp at h;exact h.2,trivial⟩)
 obtain ⟨N,hN⟩:∃ N,N=16+m:=⟨_,rfl⟩
 have eN:16+(m:Int)=(N:Int):=by omega
 have hN56:16≤N∧N≤55:=by omega
 clear hN
 go_wp2_with fail
 refine (zn1 _ (HG.znr.below HS.znr.bel)).mono ?_
 rintro e w6 ⟨lqa,pa,rfl,ht,_,hbel⟩
 have HT:=znq ht
 have hz6:=hbel.size
 have HS:=znq (HS.znr.later hbel)
 clear ht hbel hl0 hl1
 go_wp2_with fail
 refine (zo9 lqa pa _ HT.znr).mono ?_
 rintro e w7 ⟨ha,rfl,hh,hha,hbel⟩
 have HA:=znq hh
 have hza:w6.heap.size≤ha:=hha
 have HS:=znq (HS.znr.later hbel)
 have hzw7:=hh.blk.lt
 clear hh hbel hha HT
 go_wp2_with fail
 refine (zn1 _ (HG.znr.below HS.znr.bel)).mono ?_
 rintro e w8 ⟨lqb,pb,rfl,ht,_,hbel⟩
 have HT:=znq ht
 have HA:=znq (HA.znr.later hbel)
 have HS:=znq (HS.znr.later hbel)
 have hz8:=hbel.size
 clear ht hbel
 go_wp2_with fail
 refine (zo9 lqb pb _ HT.znr).mono ?_
 rintro e w9 ⟨hb,rfl,hh,hhb,hbel⟩
 have HB:=znq hh
 have HA:=znq (HA.znr.later hbel)
 have HS:=znq (HS.znr.later hbel)
 have hz9:=hbel.size
 have hab:ha≠hb:=by omega
 have hwa:w.heap.size≤ha∧w.heap.size≤hb∧w1.heap.size≠ha∧w1.heap.size≠hb∧w.heap.size≠ha∧w.heap.size≠hb:=by omega
 clear hh hbel HT
 have hn0:0 < n1:=by rcases Q1 alg HW.znr.1 with h | h | h <;> omega
 have HE1:=znq (zpe (k:=0) (pass:=p1) (secret:=key) (by omega) (by rw [HP.znr.1];exact hn2) (by rw [HK.znr.1];omega))
 have HE2:=znq (zpe (k:=1) (pass:=p2) (secret:=key) (by omega) (by rw [HQ.znr.1];exact hn3) (by rw [HK.znr.1];omega))
 have hl1:=(HS.znr.get 0 rfl).cell 1 _ rfl
 go_wp2_with fail
 refine (zpl ha lqa pa _ ((0:Nat):Int) a2 n2 c2 p1 a1 n1 c1 key _ HA.znr (HBG.znr.below HS.znr.bel) HP.znr.1 (by omega) hpc (HP.znr.2.below HS.znr.bel) HK.znr.1 (by omega) hkc (HK.znr.2.below HS.znr.bel)).mono ?_
 rintro e w10 ⟨rfl,⟨sa,hsa,hra⟩,hwr⟩
 rw [HE1.znr.1]
 have HRA:=znq (show rowOf sa=zoa zn9 ((0:Nat):Int) p1 key∧True from ⟨hra,trivial⟩)
 have HB:=znq (HB.znr.QX HA.znr hwr hab.symm)
 have HA:=znq hsa
 have HS:=znq (zpm HS.znr hwr hwa.1 (by simp;omega))
 have JP:=zow hwr
 clear hsa hra hwr hl1
 have hl1:=(HS.znr.get 0 rfl).cell 1 _ rfl
 go_wp2_with fail
 refine (zpl hb lqb pb _ ((1:Nat):Int) a3 n3 c3 p2 a1 n1 c1 key _ HB.znr (HBG.znr.below HS.znr.bel) HQ.znr.1 (by omega) hqc (HQ.znr.2.below HS.znr.bel) HK.znr.1 (by omega) hkc (HK.znr.2.below HS.znr.bel)).mono ?_
 rintro e w11 ⟨rfl,⟨sb,hsb,hrb⟩,hwr⟩
 rw [HE2.znr.1]
 have HRB:=znq (show rowOf sb=zoa zn9 ((1:Nat):Int) p2 key∧True from ⟨hrb,trivial⟩)
 have HA:=znq (HA.znr.QX HB.znr hwr hab)
 have HB:=znq hsb
 have HS:=znq (zpm HS.znr hwr hwa.2.1 (by simp;omega))
 have hz11:=zow hwr
 clear hsb hrb hwr hl1
 go_wp2_with fail
 refine (zp1 ha lqa pa sa a2 n2 c2 p1 key ((0:Nat):Int) 0 _ HA.znr (HBG.znr.below HS.znr.bel) (by rw [HRA.znr.1];exact HE1.znr.2.1) HP.znr.1 (by omega) hpc (HP.znr.2.below HS.znr.bel) (by rw [HRA.znr.1];exact HE1.znr.2.2)).mono ?_
 rintro e w12 ⟨⟨aoA,rfl,hlA⟩,hbel⟩
 rw [HK.znr.1]
 have HLA:=znq hlA
 have HB:=znq (HB.znr.later hbel)
 have HS:=znq (HS.znr.later hbel)
 have hz12:=hbel.size
 clear hlA hbel HA
 go_wp2_with fail
 refine (zp1 hb lqb pb sb a3 n3 c3 p2 key ((1:Nat):Int) 0 _ HB.znr (HBG.znr.below HS.znr.bel) (by rw [HRB.znr.1];exact HE2.znr.2.1) HQ.znr.1 (by omega) hqc (HQ.znr.2.below HS.znr.bel) (by rw [HRB.znr.1];exact HE2.znr.2.2)).mono ?_
 rintro e w13 ⟨⟨aoB,rfl,hlB⟩,hbel⟩
 rw [HK.znr.1]
 have HLB:=znq hlB
 have HLA:=znq (HLA.znr.below hbel)
 have HS:=znq (HS.znr.later hbel)
 have hz13:=hbel.size
 clear hlB hbel HB HE1 HE2 HRA HRB
 have hl0:=(HS.znr.get 0 rfl).cell 0 _ rfl
 have hl1:=(HS.znr.get 0 rfl).cell 1 _ rfl
 have F1:=yL w13 aoA n1 n1 key HK.znr.1 HLA.znr
 have F2:=yL w13 a1 n1 c1 key HK.znr.1 (HK.znr.2.below HS.znr.bel)
 have F3:=yL w13 aoB n1 n1 key HK.znr.1 HLB.znr
 generalize str key=s1 at *
 go_wp2
 obtain ⟨w14,Kt⟩:∃ x,x=w13.alloc (.cells #[.int .i64 alg,.int .i64 N,.int .i64 3] 38):=⟨_,rfl⟩
 have zbP:Blk w14 w13.heap.size [.int .i64 alg,.int .i64 N,.int .i64 3] 38:=by rw [Kt];exact Blk.new w13 _ _
 have zbW:Below w13.heap.size w13 w14:=by rw [Kt];exact zD w13 _
 rw [← Kt]
 have HS:=znq ((HS.znr.later zbW).add zbP)
 have HLA:=znq (HLA.znr.below zbW)
 have HLB:=znq (HLB.znr.below zbW)
 have Kq:w13.heap.size < w14.heap.size:=zbP.lt
 clear zbP Kt zbW F1 F2 F3 hl0 hl1
 have HSS:=znq (show 1≤3∧3≤256 from by omega)
 have hc0:=fun (y:zG w14.drew)=>((HS.znr.drew.later y.later).get 0 rfl).cell 0 _ rfl
 have hc1:=fun (y:zG w14.drew)=>((HS.znr.drew.later y.later).get 0 rfl).cell 1 _ rfl
 have hc2:=fun (y:zG w14.drew)=>((HS.znr.drew.later y.later).get 0 rfl).cell 2 _ rfl
 go_wp2_with fail
 refine zn [1,2,0,3,4,5,6,7,8] (by kernel_rfl) (by kernel_rfl) ?_
 rintro w15 rfl
 refine mqR ?_
 clear hc0 hc1 hc2
 have HS:=znq HS.znr.drew
 have HLA:=znq (HLA.znr.below (Below.refl w14.heap.size w14).drew)
 have HLB:=znq (HLB.znr.below (Below.refl w14.heap.size w14).drew)
 have hz15:w14.heap.size=w14.drew.heap.size:=rfl
 generalize w14.drew=w15 at *
 refine zi rfl rfl (by rfl) (fun K hK=>?_)
 go_simp
 refine (zn1 _ (HG.znr.below HS.znr.bel)).mono ?_
 rintro e w16 ⟨lqc,pc,rfl,ht,hqp,hbel⟩
 have HT:=znq ht
 have HS:=znq (HS.znr.later hbel)
 have HLA:=znq (HLA.znr.below hbel)
 have HLB:=znq (HLB.znr.below hbel)
 have hz16:=hbel.size
 go_simp
 refine hK _ _ hbel ?_
 clear hK K hbel ht hqp
 refine zi rfl rfl (by rfl) (fun K hK=>?_)
 go_simp
 refine (zr7 [] lqc pc alg N 3 aoA n1 n1 key _ (by omega) HSS.znr HW.znr.1 HK.znr.1 (xc _) HLA.znr HT.znr (HBG.znr.below HS.znr.bel) (fun i hi=>by cases hi)).mono ?_
 rintro e w17 ⟨vp1,sp1,np1,rfl,hv,_,h1,h2,hbel⟩
 have HV1:=znq hv
 have hvp1:w16.heap.size≤vp1∧w16.heap.size≤sp1:=⟨h1,h2⟩
 have hvl1:vp1 < w17.heap.size∧sp1 < w17.heap.size:=⟨hv.cells.lt,hv.store.lt⟩
 have HS:=znq (HS.znr.later hbel)
 have HLB:=znq (HLB.znr.below hbel)
 go_simp
 refine hK _ _ hbel ?_
 clear hK K hbel hv h1 h2 HT HLA
 refine mqR ?_
 refine zo ?_
 have hc0:=fun (y:zG w17.drew)=>((HS.znr.drew.later y.later).get 0 rfl).cell 0 _ rfl
 have hc1:=fun (y:zG w17.drew)=>((HS.znr.drew.later y.later).get 0 rfl).cell 1 _ rfl
 have hc2:=fun (y:zG w17.drew)=>((HS.znr.drew.later y.later).get 0 rfl).cell 2 _ rfl
 go_wp2_with fail
 refine zn [1,2,0,3,4,5,6,7,8] (by kernel_rfl) (by kernel_rfl) ?_
 rintro w18 rfl
 refine mqR ?_
 clear hc0 hc1 hc2
 have HS:=znq HS.znr.drew
 have HV1:=znq (HV1.znr.below (Below.refl w17.heap.size w17).drew)
 have HLB:=znq (HLB.znr.below (Below.refl w17.heap.size w17).drew)
 have hz18:w17.heap.size=w17.drew.heap.size:=rfl
 generalize w17.drew=w18 at *
 refine zi rfl rfl (by rfl) (fun K hK=>?_)
 go_simp
 refine (zn1 _ (HG.znr.below HS.znr.bel)).mono ?_
 rintro e w19 ⟨lqd,pd,rfl,ht,hqp,hbel⟩
 have HT:=znq ht
 have HV1:=znq (HV1.znr.below hbel)
 have HS:=znq (HS.znr.later hbel)
 have HLB:=znq (HLB.znr.below hbel)
 have hz19:=hbel.size
 have HFQ:=znq (show ∀ i∈[vp1,sp1],i < w19.heap.size∧i≠lqd∧i≠pd from fun i hi=>by simp at hi;rcases hi with rfl | rfl <;> omega)
 go_simp
 refine hK _ _ hbel ?_
 clear hK K hbel ht hqp
 refine zi rfl rfl (by rfl) (fun K hK=>?_)
 go_simp
 refine (zr7 [vp1,sp1] lqd pd alg N 3 aoB n1 n1 key _ (by omega) HSS.znr HW.znr.1 HK.znr.1 (xc _) HLB.znr HT.znr (HBG.znr.below HS.znr.bel) HFQ.znr).mono ?_
 rintro e w20 ⟨vp2,sp2,np2,rfl,hv,_,h1,h2,hbel⟩
 have HV2:=znq hv
 have hvp2:w19.heap.size≤vp2∧w19.heap.size≤sp2:=⟨h1,h2⟩
 have HV1:=znq (HV1.znr.below hbel)
 have HS:=znq (HS.znr.later hbel)
 go_simp
 refine hK _ _ hbel ?_
 clear hK K hbel hv h1 h2 HT HLB HFQ
 refine mqR ?_
 refine zo ?_
 obtain ⟨i0,hi0,hj0,hj1,hj2⟩:=info_parts yq
 have HI:=znq (And.intro hi0 (And.intro hj0 (And.intro hj1 hj2)))
 clear hi0 hj0 hj1 hj2
 obtain ⟨w21,hrun,hown,hgrow⟩:=run_make_full (P:=Tryz.prog) w20 w20.heap.size 22 5 i0 (.int .u8 0) 1 Tryz.underlying22 HI.znr.1 HI.znr.2.1 HI.znr.2.2.1 .i64 .i64 N (by rw [HI.znr.2.2.2];omega) (by unfold maxLen;omega) (xc _)
 have KN:=(KX hown).1
 have e1:(madeCells (Value.int .u8 0).cells (N*1)).toList=wh N (.int .u8 0):=by
  rw [show (Value.int .u8 0).cells=#[.int .u8 0] from rfl,Nat.mul_one,toList_madeCells_one]
 rw [e1] at KN
 have ZQ:Below w20.heap.size w20 w21:=(Below.refl w20.heap.size w20).grown hgrow (xc _) (fun k h=>by cases h)
 have hvl2:vp2 < w20.heap.size∧sp2 < w20.heap.size:=⟨HV2.znr.cells.lt,HV2.znr.store.lt⟩
 have HKZ:=znq (show zij [vp1,sp1] w21 (fun w'=>zr w' (some ⟨w20.heap.size,0,none⟩) ((zf N).map B)) from fun w' hu=>by
  have h:=(hu.block w20.heap.size (fun hi=>by simp at hi;omega) KN.lt).trans KN
  have ez:(zf N).map B=wh N (.int .u8 0):=by unfold zf;rw [List.map_replicate];rfl
  refine ZY (ty:=5) (tl:=[]) ?_
  rw [ez,List.append_nil]
  exact h)
 have HV1:=znq (HV1.znr.below ZQ)
 have HV2:=znq (HV2.znr.below ZQ)
 have HS:=znq (HS.znr.later ZQ)
 obtain ⟨v1,hv1⟩:∃ v,v=zim alg N 3 key:=⟨_,rfl⟩
 have HF:=znq (show v1.reads=0∧v1.writes=0∧v1.size=N∧v1.mK=3∧v1.pg∧v1.write ((1:Nat):Int) (zf N)=(v1.put 1 (zf N),0)∧∀ k,k < 3→zih N (v1.put 1 (zf N)).store k=zih N v1.store k∧(zih N v1.store k).length=N from by
  rw [hv1]
  refine ⟨rfl,rfl,rfl,rfl,zlp (by omega) HSS.znr,?_,fun k hk=>⟨zps (by omega) hk,zii (zlp (alg:=alg) (key:=key) (size:=N) (by omega) HSS.znr).len hk⟩⟩
  unfold Vol.write
  rw [if_pos (by unfold Vol.has;exact ⟨by omega,by show (1:Int) < ((3:Nat):Int);omega⟩),if_pos (by show (zf N).length=N;exact zd _)]
  rfl)
 rw [← hv1] at HV1 HV2
 have JQ:=ZQ.size
 clear hown hgrow KN e1 ZQ hv1
 go_wp2_with fail
 refine (zre ((1:Nat):Int) (some ⟨w20.heap.size,0,none⟩) N N (zf N) HV1.znr ⟨by rw [HF.znr.1];omega,by rw [HF.znr.2.1];omega⟩ (zd _) HKZ.znr).mono ?_
 rintro e w22 ⟨rfl,hv,hc⟩
 rw [HF.znr.2.2.2.2.2.1] at hv ⊢
 have HV1:=znq hv
 have HV2:=znq (zpr HV2.znr hc ⟨by simp,by simp⟩ (by omega) (by omega))
 have HS:=znq (HS.znr.chg hc (by omega) (by omega) (by simp;omega))
 clear hv hc HKZ hrun
 obtain ⟨u1,hu1⟩:∃ u,u=v1.put 1 (zf N):=⟨_,rfl⟩
 have HU:=znq (show u1.size=N∧u1.mK=3∧v1.size=N∧v1.mK=3∧∀ k,k < 3→zih N u1.store k=zih N v1.store k∧(zih N v1.store k).length=N from by rw [hu1];exact ⟨HF.znr.2.2.1,HF.znr.2.2.2.1,HF.znr.2.2.1,HF.znr.2.2.2.1,HF.znr.2.2.2.2.2.2⟩)
 rw [← hu1] at HV1
 clear hu1 HF
 have HBW:=znq HS.znr.bel
 have hwv:w.heap.size≤vp1:=by omega
 clear HS hz1 hz3 hz4 hz5 hz6 hza hzw7 hz8 hhb hz9 hab hwa JP hz11 hz12 hz13 Kq hz15 hz16 hz18 hz19 hvp1 hvl1 hvp2 hvl2 JQ
 go_wp2
 go_loopw [21] (fun c wr=>∃ k:Nat,k≤3∧c=.int .i64 k∧Hid (y4 117 [vp1,sp1] wr lqc vp1 sp1 u1 (y5 u1) np1 (.pointer none))∧Hid (y4 117 [vp2,sp2,vp1,sp1] wr lqd vp2 sp2 v1 (y5 v1) np2 (.pointer none))∧Hid (Below w.heap.size w wr)) (fun c _=>3 - (intOf c).toNat)
 case atStart=>exact ⟨0,by omega,rfl,HV1,HV2,HBW⟩
 case round =>
  clear HV1 HV2 HBW
  obtain ⟨k,hk,rfl,HV1,HV2,HBW⟩:=hrel
  by_cases hlt:k < 3
  ·go_wp2_with fail
   refine (zt6 k HV1.znr (by rw [HU.znr.2.1];exact hlt)).mono ?_
   rintro e w23 ⟨val,rfl,pU,hbel⟩
   rw [HU.znr.1,(HU.znr.2.2.2.2 k hlt).1] at pU
   obtain ⟨g1,cp1,tl1,rfl,hcp1,_,hgb1⟩:=pU
   have HG1:=znq hgb1
   have HV1:=znq (HV1.znr.below hbel)
   have HV2:=znq (HV2.znr.below hbel)
   have hz23:=hbel.size
   have HBW:=znq (HBW.znr.trans (hbel.mono HBW.znr.size))
   clear hgb1 hbel
   go_wp2_with fail
   refine (zt6 k HV2.znr (by rw [HU.znr.2.2.2.1];exact hlt)).mono ?_
   rintro e w24 ⟨val,rfl,pU,hbel⟩
   rw [HU.znr.2.2.1] at pU
   obtain ⟨g2,cp2,tl2,rfl,hcp2,_,hgb2⟩:=pU
   have HG1:=znq (HG1.znr.below hbel HG1.znr.lt)
   have HG2:=znq hgb2
   have HV1:=znq (HV1.znr.below hbel)
   have HV2:=znq (HV2.znr.below hbel)
   have HBW:=znq (HBW.znr.trans (hbel.mono HBW.znr.size))
   have F1:=yL w24 (some ⟨g1,0,none⟩) N cp1 (zih N v1.store k) (HU.znr.2.2.2.2 k hlt).2 (ZY HG1.znr)
   have F2:=yL w24 (some ⟨g2,0,none⟩) N cp2 (zih N v1.store k) (HU.znr.2.2.2.2 k hlt).2 (ZY HG2.znr)
   generalize str (zih N v1.store k)=s1 at *
   clear hgb2 hbel
   go_wp2
   go_roundw
   case rel=>exact ⟨k+1,by omega,by go_num,HV1,HV2,HBW⟩
   case measure=>simp [intOf];omega
  ·obtain rfl:3=k:=by omega
   go_wp2_with fail
   refine (zpo _ (HG.znr.below HBW.znr)).mono ?_
   rintro e w23 ⟨rfl,hbel⟩
   have HBW:=znq (HBW.znr.trans (hbel.mono HBW.znr.size))
   clear hbel
   go_wp2
   go_ret
   exact ⟨rfl,HBW.znr⟩
end Go.Proofs.YtamdifhibogdiaaGreatDoor

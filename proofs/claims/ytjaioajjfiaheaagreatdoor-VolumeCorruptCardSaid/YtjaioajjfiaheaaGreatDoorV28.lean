/-
  Texts of this claim, one behind the other.
-/
import Derived.Test.YtjaioajjfiaheaaGreatDoorV1
import Derived.Test.YtjaioajjfiaheaaGreatDoorV27
import Derived.Lib.SlBytesConst
import Derived.Lib.Hide
set_option linter.unusedVariables false
set_option linter.unusedSimpArgs false
set_option maxHeartbeats 16000000
set_option maxRecDepth 100000
open List renaming mem_cons→uB,mem_cons_of_mem→ui
open Nat renaming le_refl→xc,le_trans→uj,lt_of_lt_of_le→bI
namespace Go.Proofs.YtjaioajjfiaheaaGreatDoor
open RowKit Mem Ops Cells Oct Gf Trn Aes Ring Ezk Blake Adi Hct Wid Vol Fl ru
attribute [local irreducible] zE zN zO zM yu
def zhP:List UInt8:=[115,105,120,116,101,101,110,32,108,101,116,116,101,114,115,33]
def ztd:List UInt8:=[115,105,120,116,101,101,110,32,108,101,116,116,101,114,115,46]
theorem zhQ:fl 2=4611686018427387904:=by decide +kernel
theorem zsh {v:Vol} (h:v.pg) (hs:v.size=16∧v.mK=2) {b:List UInt8} (hb:b.length=16) :
  v.write 1 b=(v.put 1 b,0)∧(v.put 1 b).pg∧((v.put 1 b).size=16∧(v.put 1 b).mK=2)∧(v.put 1 b).sec 1=b∧(v.put 1 b).reads=v.reads∧(v.put 1 b).writes=v.writes+1:=by
 have hn:(1:Nat) < v.mK:=by omega
 have hb':b.length=v.size:=by omega
 refine ⟨?_,h.put hn hb',hs,?_,rfl,rfl⟩
 ·unfold Vol.write
  rw [if_pos (by unfold Vol.has;omega),if_pos hb']
  rfl
 ·rw [zte h hn hb',if_pos rfl]
theorem zr8 {F:List Nat} {w:World} {bs:List UInt8} {fr:Nat×Nat} (hF:∀ i∈F,i < w.heap.size):zij F (w.alloc (.cells (bs.map B).toArray 5 fr)) (fun w'=>zr w' (some ⟨w.heap.size,0,none⟩) (bs.map B)):=by
 intro w' hu
 have h:=heap_alloc_new w (.cells (bs.map B).toArray 5 fr)
 have h2:=(hu.block w.heap.size (fun hi=>absurd (hF _ hi) (Nat.lt_irrefl _)) (Array.getElem?_eq_some_iff.1 h).1).trans h
 have:=zr.of_block h2
 simpa using this
theorem zra (w:World) (hg:pQ w) (hbg:qD w):Calls Tryz.prog 33 #[] w fun e w'=>e=.returned (.bool true)∧Below w.heap.size w w':=by
 have HG:=znq hg
 have HBG:=znq hbg
 have HS:=znq (St.start w)
 obtain ⟨v0,hv0⟩:∃ v,v=zim 1 16 2 (zf 32):=⟨_,rfl⟩
 have H0:=znq (show zim 1 16 2 (zf 32)=v0∧v0.pg∧(v0.size=16∧v0.mK=2)∧v0.reads=0∧v0.writes=0 from ⟨hv0.symm,by rw [hv0];exact zlp (by omega) (by omega),by rw [hv0];exact ⟨rfl,rfl⟩,by rw [hv0];rfl,by rw [hv0];rfl⟩)
 have f1:=zsh H0.znr.2.1 H0.znr.2.2.1 (b:=zhP) rfl
 obtain ⟨v1,hv1⟩:∃ v,v=v0.put 1 zhP:=⟨_,rfl⟩
 rw [← hv1] at f1
 have F1:=znq f1
 have f2:=zsh f1.2.1 f1.2.2.1 (b:=ztd) rfl
 obtain ⟨v2,hv2⟩:∃ v,v=v1.put 1 ztd:=⟨_,rfl⟩
 rw [← hv2] at f2
 have F2:=znq f2
 obtain ⟨v3,hv3⟩:∃ v,v=(v2.read 1).1:=⟨_,rfl⟩
 have F3:=znq (show v2.read ((1:Nat):Int)=(v3,0)∧y5 v3=.complex .f64 4607182418800017408 4611686018427387904 from by
  have e:v2.read ((1:Nat):Int)=({ v2 with reads:=v2.reads+1 },0):=by unfold Vol.read;rw [if_pos (by unfold Vol.has;omega)]
  have e3:v3={ v2 with reads:=v2.reads+1 }:=by rw [hv3];exact congrArg Prod.fst e
  rw [e3]
  refine ⟨e,?_⟩
  unfold y5
  show Value.complex .f64 (fl (v2.reads+1)) (fl v2.writes)=_
  rw [f2.2.2.2.2.1,f1.2.2.2.2.1,H0.znr.2.2.2.1,f2.2.2.2.2.2,f1.2.2.2.2.2,H0.znr.2.2.2.2,zs8,zhQ])
 clear hg hbg hv0 hv1 hv2 hv3 f1 f2
 go_enter Tryz.func33,Tryz.ntmps33
 go_wp2_with fail
 refine yn [1] [0] [3,4,5,6,7,8] [zH.make 2 10 5 ((zf 32).map B)] (by kernel_rfl) (by kernel_rfl) ?_
 rintro w1 rfl
 have HS:=znq HS.znr.drew
 refine zs3 rfl 83 _ _ _ rfl rfl (ztb 1 16 2) (fun K hK=>?_)
 go_simp
 refine hK _ ?_
 clear hK K
 refine yK ⟨?_,?_,xc _⟩
 ·intro f hf
  simp only [List.mem_singleton] at hf
  subst hf
  exact WA _ _ _ 22 _ _ rfl rfl rfl rfl (by simp) (fun w'=>Kt w')
 refine zC rfl rfl (fun uz wa hla K hK=>?_)
 go_simp
 have HS:=znq (HS.znr.later hla)
 refine (zq1 _ (HG.znr.below HS.znr.bel)).mono ?_
 rintro e w2 ⟨q,p,rfl,ht,_,hbel⟩
 have HT:=znq ht
 have HS:=znq (HS.znr.later hbel)
 go_simp
 refine hK _ _ hbel ?_
 clear hK K hbel hla ht
 refine yZ (fun bx w3 hlb hbx hbn=>?_)
 go_simp
 have HS:=znq (HS.znr.later hlb)
 have HT:=znq (HT.znr.below hlb (xc _))
 have HLZ:=znq (show zr w3 (some ⟨bx,0,none⟩) ((zf 32).map B) from (show Blk w3 bx ((zf 32).map B) 5 from hbn).lies)
 clear hlb hbn
 refine zi rfl rfl (by rfl) (fun K hK=>?_)
 go_simp
 refine (zr7 [] q p 1 16 2 (some ⟨bx,0,none⟩) 32 32 (zf 32) _ (by omega) (by omega) rfl (zd 32) (by omega) HLZ.znr HT.znr (HBG.znr.below HS.znr.bel) (by simp)).mono ?_
 rintro e w4 ⟨vp,sp,np,rfl,hv,htb,h1,h2,hbel⟩
 have hz3:=HS.znr.size
 have hvp:=uj hz3 h1
 have hsp:=uj hz3 h2
 rw [H0.znr.1] at hv
 have HV:=znq hv
 have HS:=znq (HS.znr.later hbel)
 go_simp
 refine hK _ _ hbel ?_
 clear hK K hbel hv HT HLZ hbx htb h1 h2
 refine mqR ?_
 refine zo ?_
 have hcv:(convert 22 22 (.slice (some ⟨w4.heap.size,0,none⟩) 16 16)).run Tryz.prog (w4.alloc (.cells #[.int .u8 115,.int .u8 105,.int .u8 120,.int .u8 116,.int .u8 101,.int .u8 101,.int .u8 110,.int .u8 32,.int .u8 108,.int .u8 101,.int .u8 116,.int .u8 116,.int .u8 101,.int .u8 114,.int .u8 115,.int .u8 33] 5))=.ok (.slice (some ⟨w4.heap.size,0,none⟩) 16 16) (w4.alloc (.cells #[.int .u8 115,.int .u8 105,.int .u8 120,.int .u8 116,.int .u8 101,.int .u8 101,.int .u8 110,.int .u8 32,.int .u8 108,.int .u8 101,.int .u8 116,.int .u8 116,.int .u8 101,.int .u8 114,.int .u8 115,.int .u8 33] 5 (16,17))):=Lib.run_convert_bytes_const (P:=Tryz.prog) w4 22 5 #[.int .u8 115,.int .u8 105,.int .u8 120,.int .u8 116,.int .u8 101,.int .u8 101,.int .u8 110,.int .u8 32,.int .u8 108,.int .u8 101,.int .u8 116,.int .u8 116,.int .u8 101,.int .u8 114,.int .u8 115,.int .u8 33] 16 16 Tryz.underlying22 Tryz.underlying5
 have hvl:=HV.znr.cells.lt
 have hsl:=HV.znr.store.lt
 have HK5:=znq (show zij [vp,sp] (w4.alloc (.cells #[.int .u8 115,.int .u8 105,.int .u8 120,.int .u8 116,.int .u8 101,.int .u8 101,.int .u8 110,.int .u8 32,.int .u8 108,.int .u8 101,.int .u8 116,.int .u8 116,.int .u8 101,.int .u8 114,.int .u8 115,.int .u8 33] 5 (16,17))) (fun w'=>zr w' (some ⟨w4.heap.size,0,none⟩) (zhP.map B)) from zr8 (bs:=zhP) (fun i hi=>by simp at hi;omega))
 have HV:=znq (HV.znr.below (zD w4 (.cells #[.int .u8 115,.int .u8 105,.int .u8 120,.int .u8 116,.int .u8 101,.int .u8 101,.int .u8 110,.int .u8 32,.int .u8 108,.int .u8 101,.int .u8 116,.int .u8 116,.int .u8 101,.int .u8 114,.int .u8 115,.int .u8 33] 5 (16,17))))
 have HS:=znq (HS.znr.later (zD w4 (.cells #[.int .u8 115,.int .u8 105,.int .u8 120,.int .u8 116,.int .u8 101,.int .u8 101,.int .u8 110,.int .u8 32,.int .u8 108,.int .u8 101,.int .u8 116,.int .u8 116,.int .u8 101,.int .u8 114,.int .u8 115,.int .u8 33] 5 (16,17))))
 go_wp2_with fail
 obtain ⟨w5,hw5⟩:∃ x,x=w4.alloc (.cells #[.int .u8 115,.int .u8 105,.int .u8 120,.int .u8 116,.int .u8 101,.int .u8 101,.int .u8 110,.int .u8 32,.int .u8 108,.int .u8 101,.int .u8 116,.int .u8 116,.int .u8 101,.int .u8 114,.int .u8 115,.int .u8 33] 5 (16,17)):=⟨_,rfl⟩
 rw [← hw5] at HK5 HV HS
 rw [← hw5]
 clear hw5 hcv
 refine (zre 1 (some ⟨w4.heap.size,0,none⟩) 16 16 zhP HV.znr (by rw [H0.znr.2.2.2.1,H0.znr.2.2.2.2];omega) rfl HK5.znr).mono ?_
 rintro e w6 ⟨rfl,hv,hc⟩
 rw [F1.out.1] at hv
 rw [F1.out.1]
 have HS:=znq (HS.znr.chg hc hvp hsp (by simp))
 have HV:=znq hv
 clear hv hc HK5 hvl hsl
 have hcv:(convert 22 22 (.slice (some ⟨w6.heap.size,0,none⟩) 16 16)).run Tryz.prog (w6.alloc (.cells #[.int .u8 115,.int .u8 105,.int .u8 120,.int .u8 116,.int .u8 101,.int .u8 101,.int .u8 110,.int .u8 32,.int .u8 108,.int .u8 101,.int .u8 116,.int .u8 116,.int .u8 101,.int .u8 114,.int .u8 115,.int .u8 46] 5))=.ok (.slice (some ⟨w6.heap.size,0,none⟩) 16 16) (w6.alloc (.cells #[.int .u8 115,.int .u8 105,.int .u8 120,.int .u8 116,.int .u8 101,.int .u8 101,.int .u8 110,.int .u8 32,.int .u8 108,.int .u8 101,.int .u8 116,.int .u8 116,.int .u8 101,.int .u8 114,.int .u8 115,.int .u8 46] 5 (16,17))):=Lib.run_convert_bytes_const (P:=Tryz.prog) w6 22 5 #[.int .u8 115,.int .u8 105,.int .u8 120,.int .u8 116,.int .u8 101,.int .u8 101,.int .u8 110,.int .u8 32,.int .u8 108,.int .u8 101,.int .u8 116,.int .u8 116,.int .u8 101,.int .u8 114,.int .u8 115,.int .u8 46] 16 16 Tryz.underlying22 Tryz.underlying5
 have hvl:=HV.znr.cells.lt
 have hsl:=HV.znr.store.lt
 have HK5:=znq (show zij [vp,sp] (w6.alloc (.cells #[.int .u8 115,.int .u8 105,.int .u8 120,.int .u8 116,.int .u8 101,.int .u8 101,.int .u8 110,.int .u8 32,.int .u8 108,.int .u8 101,.int .u8 116,.int .u8 116,.int .u8 101,.int .u8 114,.int .u8 115,.int .u8 46] 5 (16,17))) (fun w'=>zr w' (some ⟨w6.heap.size,0,none⟩) (ztd.map B)) from zr8 (bs:=ztd) (fun i hi=>by simp at hi;omega))
 have HV:=znq (HV.znr.below (zD w6 (.cells #[.int .u8 115,.int .u8 105,.int .u8 120,.int .u8 116,.int .u8 101,.int .u8 101,.int .u8 110,.int .u8 32,.int .u8 108,.int .u8 101,.int .u8 116,.int .u8 116,.int .u8 101,.int .u8 114,.int .u8 115,.int .u8 46] 5 (16,17))))
 have HS:=znq (HS.znr.later (zD w6 (.cells #[.int .u8 115,.int .u8 105,.int .u8 120,.int .u8 116,.int .u8 101,.int .u8 101,.int .u8 110,.int .u8 32,.int .u8 108,.int .u8 101,.int .u8 116,.int .u8 116,.int .u8 101,.int .u8 114,.int .u8 115,.int .u8 46] 5 (16,17))))
 go_wp2_with fail
 obtain ⟨w7,hw7⟩:∃ x,x=w6.alloc (.cells #[.int .u8 115,.int .u8 105,.int .u8 120,.int .u8 116,.int .u8 101,.int .u8 101,.int .u8 110,.int .u8 32,.int .u8 108,.int .u8 101,.int .u8 116,.int .u8 116,.int .u8 101,.int .u8 114,.int .u8 115,.int .u8 46] 5 (16,17)):=⟨_,rfl⟩
 rw [← hw7] at HK5 HV HS
 rw [← hw7]
 clear hw7 hcv
 refine (zre 1 (some ⟨w6.heap.size,0,none⟩) 16 16 ztd HV.znr (by rw [F1.out.2.2.2.2.1,F1.out.2.2.2.2.2,H0.znr.2.2.2.1,H0.znr.2.2.2.2];omega) rfl HK5.znr).mono ?_
 rintro e w8 ⟨rfl,hv,hc⟩
 rw [F2.out.1] at hv
 rw [F2.out.1]
 have HS:=znq (HS.znr.chg hc hvp hsp (by simp))
 have HV:=znq hv
 clear hv hc HK5 hvl hsl
 go_wp2_with fail
 refine (zr4 1 HV.znr (by rw [F2.out.2.2.1.2];omega) (by rw [F2.out.2.2.2.2.1,F2.out.2.2.2.2.2,F1.out.2.2.2.2.1,F1.out.2.2.2.2.2,H0.znr.2.2.2.1,H0.znr.2.2.2.2];omega)).mono ?_
 rintro e w9 ⟨val,rfl,pU,hv,hc⟩
 rw [F3.out.1] at hv
 rw [F2.out.2.2.1.1,F2.out.2.2.2.1] at pU
 obtain ⟨ao,cap,rfl,hcap,hl⟩:=pU.lies
 have HS:=znq (HS.znr.chg hc hvp hsp (by simp))
 have HL:=znq (zsz hv)
 rw [F3.out.2] at HL
 have G1:=yL w9 ao 16 cap ztd rfl hl
 have hqc:=fun (w:World) (d a b x y:Nat)=>zqq (P:=Tryz.prog) w d 71 .f64 a b x y Tryz.underlying71
 have q1:(FloatKind.f64.format.order 4607182418800017408 4607182418800017408==some Ordering.eq)=true:=by decide +kernel
 have q2:(FloatKind.f64.format.order 4611686018427387904 4611686018427387904==some Ordering.eq)=true:=by decide +kernel
 have hse:str ztd=⟨#[115,105,120,116,101,101,110,32,108,101,116,116,101,114,115,46]⟩:=rfl
 rw [hse] at G1
 clear pU hv hc hl hse
 go_wp2_with fail
 refine HL.znr.mono ?_
 rintro e w10 ⟨rfl,rfl⟩
 go_wp2
 go_ret
 exact ⟨rfl,HS.znr.bel⟩
end Go.Proofs.YtjaioajjfiaheaaGreatDoor
namespace Go.Vol
open Ops Wid
theorem zqy {v:Vol} (h:v.pg) {n:Nat} (hn:n < v.mK):(v.read n).2=0∧(v.read n).1.pg∧Form v (v.read n).1∧(v.read n).1.reads=v.reads+1∧(v.read n).1.writes=v.writes∧(∀ m,(v.read n).1.sec m=v.sec m)∧(v.read n).1.store=v.store∧(v.read n).1.next=v.next∧(v.read n).1.now=v.now∧(v.read n).1.moved=v.moved:=by
 have e:v.read n=({ v with reads:=v.reads+1 },0):=by unfold Vol.read;rw [if_pos (by unfold Vol.has;omega)]
 rw [e]
 exact ⟨rfl,h.count _ _,⟨rfl,rfl,rfl⟩,rfl,rfl,fun _=>rfl,rfl,rfl,rfl,rfl⟩
end Go.Vol
namespace Go.Proofs.YtjaioajjfiaheaaGreatDoor
open RowKit Mem Ops Cells Oct Gf Trn Aes Ring Ezk Blake Adi Hct Wid Vol Fl ru
attribute [local irreducible] zE zN zO zM yu
def kq (F:List Nat) (q p vp sp:Nat) (w:World) (v:Vol):Prop:=∃ np xp,y4 104 F w q vp sp v (y5 v) np xp∧zrr F w q p
theorem kq.below {F:List Nat} {q p vp sp:Nat} {w w':World} {v:Vol} (h:kq F q p vp sp w v) (hb:Below w.heap.size w w'):kq F q p vp sp w' v:=by
 obtain ⟨np,xp,h,ht⟩:=h
 exact ⟨np,xp,h.below hb,ht.below hb⟩
theorem kq.lt {F:List Nat} {q p vp sp:Nat} {w:World} {v:Vol} (h:kq F q p vp sp w v):vp < w.heap.size∧sp < w.heap.size:=by obtain ⟨np,xp,h,_⟩:=h;exact ⟨h.cells.lt,h.store.lt⟩
theorem kq.wider {F:List Nat} {q p vp sp b:Nat} {w w':World} {v:Vol} (h:kq F q p vp sp w v) (hb:Below w.heap.size w w') (h1:w.heap.size≤b) (h2:b < w'.heap.size) (hq:q < w.heap.size∧p < w.heap.size):kq (b::F) q p vp sp w' v:=by
 obtain ⟨np,xp,h,ht⟩:=h
 have hF:∀ i∈b::F,i∈F∨w.heap.size≤i:=fun i hi=>by
  rcases uB.1 hi with rfl | hi
  ·exact .inr h1
  ·exact .inl hi
 refine ⟨np,xp,h.wider hb hF ⟨ui _ h.inF.1,ui _ h.inF.2⟩,ht.tab.wider hb hF,?_,?_,fun i hi=>?_⟩
 ·intro hi
  rcases uB.1 hi with e | hi
  ·omega
  ·exact ht.q hi
 ·intro hi
  rcases uB.1 hi with e | hi
  ·omega
  ·exact ht.p hi
 ·rcases uB.1 hi with rfl | hi
  ·exact h2
  ·exact bI (ht.lt i hi) hb.size
theorem kq.zhR {F F':List Nat} {q p vp sp:Nat} {w w':World} {v:Vol} (h:kq F q p vp sp w v) (hb:Below w.heap.size w w') (hF:∀ i∈F',i∈F∨(w.heap.size≤i∧i < w'.heap.size)) (hin:vp∈F'∧sp∈F') (hq:q < w.heap.size∧p < w.heap.size):kq F' q p vp sp w' v:=by
 obtain ⟨np,xp,h,ht⟩:=h
 have hF2:∀ i∈F',i∈F∨w.heap.size≤i:=fun i hi=>(hF i hi).imp id And.left
 exact ⟨np,xp,h.wider hb hF2 hin,ht.tab.wider hb hF2,fun hi=>(hF q hi).elim ht.q (fun h=>absurd h.1 (by omega)),fun hi=>(hF p hi).elim ht.p (fun h=>absurd h.1 (by omega)),fun i hi=>(hF i hi).elim (fun h=>bI (ht.lt i h) hb.size) And.right⟩
theorem kq.tabs {F:List Nat} {q p vp sp:Nat} {w:World} {v:Vol} (h:kq F q p vp sp w v):q < w.heap.size∧p < w.heap.size:=by obtain ⟨np,xp,_,ht⟩:=h;exact ⟨ht.tab.self.tab.lt,ht.tab.self.boxes.lt⟩
theorem kq.only {F:List Nat} {q p vp sp b:Nat} {w w':World} {v:Vol} (h:kq F q p vp sp w v) (ho:Only b w w') (hb:b∈F) (h1:b≠vp) (h2:b≠sp):kq F q p vp sp w' v:=by
 obtain ⟨np,xp,h,ht⟩:=h
 exact ⟨np,xp,h.free (zI.nH ho) hb (fun e=>h1 e.symm) (fun e=>h2 e.symm),ht.at (Up.nH ho (fun e=>e hb))⟩
theorem kq.narrow {F F':List Nat} {q p vp sp:Nat} {w:World} {v:Vol} (h:kq F' q p vp sp w v) (hF:∀ i∈F,i∈F') (hin:vp∈F∧sp∈F):kq F q p vp sp w v:=by
 obtain ⟨np,xp,h,ht⟩:=h
 have hk:∀ X,zij F' w X→zij F w X:=fun X k w' hu=>k w' ⟨hu.size,fun i hi hl=>hu.block i (fun h=>hi (hF i h)) hl⟩
 exact ⟨np,xp,⟨h.pq,h.ne,hin,h.cells,h.store,hk _ h.now,h.next.imp hk⟩,⟨hk _ ht.tab,fun hi=>ht.q (hF _ hi),fun hi=>ht.p (hF _ hi),fun i hi=>ht.lt i (hF i hi)⟩⟩
theorem kq.chg {F:List Nat} {q p vp sp vo so:Nat} {w w':World} {v:Vol} (h:kq F q p vp sp w v) (hc:Chg vo so w w') (hin:vo∈F∧so∈F) (h1:vp≠vo∧vp≠so) (h2:sp≠vo∧sp≠so):kq F q p vp sp w' v:=by
 obtain ⟨np,xp,h,ht⟩:=h
 have hu:=hc.up hin
 exact ⟨np,xp,⟨h.pq,h.ne,h.inF,h.cells.chg hc h1.1 h1.2,h.store.chg hc h2.1 h2.2,h.now.at hu,h.next.imp fun _ k=>k.at hu⟩,ht.at hu⟩
theorem zr9 {F0:List Nat} {w w':World} {vp sp:Nat} {v:Vol} (h:Made F0 w w' vp sp v):∃ q p,kq (vp::sp::F0) q p vp sp w' v∧w.heap.size≤vp∧w.heap.size≤sp:=by
 obtain ⟨q,p,np,xp,h1,h2,h3,h4⟩:=h
 exact ⟨q,p,⟨np,xp,h1,h2⟩,h3,h4⟩
theorem zsa {F:List Nat} {q p vp sp:Nat} {w:World} {v:Vol} (x:zmm) (h:kq F q p vp sp w v) (hr:v.reads≤1000000∧v.writes≤1000000) (hg:qD w) (hcap:x.bs.length≤x.cap) (hl:zij F w (fun w'=>zr w' x.ao (x.bs.map B))) :
  Calls Tryz.prog 31 #[.pointer (some ⟨vp,0,none⟩),.agg x.vals.toArray] w fun e w'=>e=.returned (.int .i64 (v.act (pW x.kind) x.n x.bs x.by').2)∧kq F q p vp sp w' (v.act (pW x.kind) x.n x.bs x.by').1∧Chg vp sp w w':=by
 obtain ⟨np,xp,h,ht⟩:=h
 have hin:=h.inF
 refine (zts x h ht hr hg hcap hl).mono ?_
 rintro e w' ⟨he,⟨np',xp',hv⟩,hc⟩
 exact ⟨he,⟨np',xp',hv,ht.at (hc.up hin)⟩,hc⟩
theorem zrf {F:List Nat} {q p vp sp:Nat} {w:World} {v:Vol} (n:Nat) (h:kq F q p vp sp w v) (hn:n < v.mK) (hr:v.reads≤1000000∧v.writes≤1000000) :
  Calls Tryz.prog 32 #[.pointer (some ⟨vp,0,none⟩),.int .i64 n] w fun e w'=>∃ ao cap,e=.returned (.tuple #[.slice ao v.size cap,.int .i64 0])∧Got w.heap.size w' (.slice ao v.size cap) v.size (v.sec n)∧kq F q p vp sp w' (v.read n).1∧Chg vp sp w w':=by
 obtain ⟨np,xp,h,ht⟩:=h
 have hin:=h.inF
 refine (zr4 n h hn hr).mono ?_
 rintro e w' ⟨val,he,pU,hv,hc⟩
 obtain ⟨g,cap,tl,rfl,h1,h2,h3⟩:=pU
 exact ⟨_,cap,he,⟨g,cap,tl,rfl,h1,h2,h3⟩,⟨np,xp,hv,ht.at (hc.up hin)⟩,hc⟩
theorem zt1 {F:List Nat} {q p vp sp:Nat} {w:World} {v:Vol} (n:Nat) (h:kq F q p vp sp w v) (hn:n < v.mK) :
  Calls Tryz.prog 42 #[.pointer (some ⟨vp,0,none⟩),.int .i64 n] w fun e w'=>∃ ao cap,e=.returned (.tuple #[.slice ao v.size cap,.int .i64 0])∧Got w.heap.size w' (.slice ao v.size cap) v.size (zih v.size v.store n)∧Below w.heap.size w w':=by
 obtain ⟨np,xp,h,ht⟩:=h
 refine (zt6 n h hn).mono ?_
 rintro e w' ⟨val,he,pU,hb⟩
 obtain ⟨g,cap,tl,rfl,h1,h2,h3⟩:=pU
 exact ⟨_,cap,he,⟨g,cap,tl,rfl,h1,h2,h3⟩,hb⟩
theorem Got.slice {base n:Nat} {w:World} {ao:Option Addr} {c:Nat} {xs:List UInt8} (h:Got base w (.slice ao n c) n xs):n≤c∧zr w ao (xs.map B):=by
 obtain ⟨g,cap,tl,e,h1,h2,h3⟩:=h
 cases e
 exact ⟨h1,ZY h3⟩
theorem zsb {alg size secs:Int} {kn:Nat} (h:nU alg size secs kn=0):ni alg kn=0:=by
 obtain ⟨_,_,_,_,_,_,h⟩:=zmq h
 exact h
abbrev SV (b:List UInt8):Value:=.string (str b)
theorem zrn:(Tryz.prog.info? 9).map (fun i=>(i.zero,i.size,i.bytes))=some (some (.string ByteArray.empty),1,16):=by kernel_rfl
theorem zrb:(Tryz.prog.info? 9).map (·.size)=some 1:=by kernel_rfl
theorem zsc:(Tryz.prog.info? 54).map (·.zero)=some (some (.agg #[.int .i64 0,.int .i64 0,.slice none 0 0,.int .u8 0])):=by kernel_rfl
theorem zt2 (x:zmm):∀ u∈x.vals,u.oneCell'=true:=by simp [zmm.vals,Value.oneCell']
theorem ztg {F:List Nat} {q p vp sp:Nat} {w:World} {v:Vol} (ka:Option Addr) (kn kc:Nat) (key:List UInt8) (h:kq F q p vp sp w v) (hkn:key.length=kn) (hkc:kn≤kc) (hkl:zr w ka (key.map B)) (hg:qD w) :
  Calls Tryz.prog 34 #[.pointer (some ⟨vp,0,none⟩),.slice ka kn kc] w fun e w'=>e=.returned (.int .i64 (v.start key).2)∧kq F q p vp sp w' (v.start key).1∧Chg vp sp w w':=by
 obtain ⟨np,xp,h,ht⟩:=h
 have hin:=h.inF
 refine (zrs ka kn kc key h ht hkn hkc hkl hg).mono ?_
 rintro e w' ⟨he,⟨xp',hv⟩,hc⟩
 exact ⟨he,⟨_,_,hv,ht.at (hc.up hin)⟩,hc⟩
theorem zhS {F:List Nat} {q p vp sp:Nat} {w:World} {v:Vol} (ka:Option Addr) (kn kc:Nat) (key:List UInt8) (h:kq F q p vp sp w v) (hkn:key.length=kn) (hkc:kn≤kc) (hkl:zr w ka (key.map B)) (hg:qD w) :
  Calls Tryz.prog 35 #[.pointer (some ⟨vp,0,none⟩),.slice ka kn kc] w fun e w'=>e=.returned (.int .i64 (v.all key).2)∧kq F q p vp sp w' (v.all key).1∧Chg vp sp w w':=by
 obtain ⟨np,xp,h,ht⟩:=h
 have hin:=h.inF
 refine (ztf ka kn kc key h ht hkn hkc hkl hg).mono ?_
 rintro e w' ⟨he,⟨np',xp',hv⟩,hc⟩
 exact ⟨he,⟨_,_,hv,ht.at (hc.up hin)⟩,hc⟩
theorem zhT {F:List Nat} {q p vp sp:Nat} {w:World} {v:Vol} (k:ku) (h:kq F q p vp sp w v) (hx:v.next=some k) :
  Calls Tryz.prog 36 #[.pointer (some ⟨vp,0,none⟩)] w fun e w'=>e=.returned (.tuple #[.int .i64 ((v.mK - v.moved - 1:Nat):Int),.int .i64 0])∧kq F q p vp sp w' (v.step k)∧Chg vp sp w w':=by
 obtain ⟨np,xp,h,ht⟩:=h
 have hin:=h.inF
 refine (zrm k h hx).mono ?_
 rintro e w' ⟨he,⟨np',xp',hv⟩,hc⟩
 exact ⟨he,⟨_,_,hv,ht.at (hc.up hin)⟩,hc⟩
theorem zt7 {F:List Nat} {q p vp sp:Nat} {w:World} {v:Vol} (h:kq F q p vp sp w v) (hx:v.next=none) :
  Calls Tryz.prog 36 #[.pointer (some ⟨vp,0,none⟩)] w fun e w'=>e=.returned (.tuple #[.int .i64 0,.int .i64 12])∧w=w':=by
 obtain ⟨np,xp,h,ht⟩:=h
 exact zs0 h hx
theorem znu {F:List Nat} {q p vp sp:Nat} {w:World} {v:Vol} (k:Int) (x:UInt8) (h:kq F q p vp sp w v) :
  Calls Tryz.prog 37 #[.pointer (some ⟨vp,0,none⟩),.int .i64 k,B x] w fun e w'=>e=.returned (.int .i64 (v.harm k x).2)∧kq F q p vp sp w' (v.harm k x).1∧Chg vp sp w w':=by
 obtain ⟨np,xp,h,ht⟩:=h
 have hin:=h.inF
 refine (ztz k x h).mono ?_
 rintro e w' ⟨he,hv,hc⟩
 exact ⟨he,⟨_,_,hv,ht.at (hc.up hin)⟩,hc⟩
theorem kq.grown {F:List Nat} {q p vp sp g g':Nat} {w w':World} {v:Vol} (h:kq (g::F) q p vp sp w v) (ho:zI g w w') (hg:g'=g∨w.heap.size≤g'∧g' < w'.heap.size) (hin:vp∈F∧sp∈F) (h1:vp≠g) (h2:sp≠g):kq (g'::F) q p vp sp w' v:=by
 have hqp:=h.tabs
 obtain ⟨np,xp,h,ht⟩:=h
 have hu:∀ w'',Up (zsm (g'::F)) w' w''→Up (zsm (g::F)) w w'':=fun w'' hu=>⟨uj ho.size hu.size,fun i hi hl=>by
  have hi1:i≠g:=fun e=>hi (by simp [e])
  have hi2:i∉F:=fun e=>hi (ui _ e)
  refine (hu.block i (fun hm=>?_) (bI hl ho.size)).trans (ho.block i hl hi1)
  rcases uB.1 hm with e | hm
  ·rcases hg with e2 | e2
   ·exact hi1 (e.trans e2)
   ·omega
  ·exact hi2 hm⟩
 have hk:∀ X,zij (g::F) w X→zij (g'::F) w' X:=fun X k w'' hw=>k w'' (hu w'' hw)
 have hnot:∀ i,i < w.heap.size→i∉g::F→i∉g'::F:=fun i hl hi hm=>by
  rcases uB.1 hm with e | hm
  ·rcases hg with e2 | e2
   ·exact hi (by simp [e,e2])
   ·omega
  ·exact hi (ui _ hm)
 exact ⟨np,xp,⟨h.pq,h.ne,⟨ui _ hin.1,ui _ hin.2⟩,h.cells.pR ho h1,h.store.pR ho h2,hk _ h.now,h.next.imp hk⟩,⟨hk _ ht.tab,hnot q hqp.1 ht.q,hnot p hqp.2 ht.p,fun i hi=>by
  rcases uB.1 hi with e | hi
  ·rcases hg with e2 | e2
   ·rw [e,e2];exact bI (ht.lt g (by simp)) ho.size
   ·rw [e];exact e2.2
  ·exact bI (ht.lt i (ui _ hi)) ho.size⟩⟩
theorem zsd (a:Nat) (h:a≤1000000):(FloatKind.f64.format.order (fl a) (fl a)==some Ordering.eq)=true:=by
 have e:FloatKind.f64.format.order (fl a) (fl a)=some (compare a a):=zb6 a a (by omega) (by omega)
 rw [e]
 simp
theorem zt3 {F:List Nat} {q p vp sp:Nat} {w:World} {v:Vol} (h:kq F q p vp sp w v):Calls Tryz.prog 41 #[.pointer (some ⟨vp,0,none⟩)] w fun e w'=>e=.returned (.complex .f64 (fl v.reads) (fl v.writes))∧w=w':=by
 obtain ⟨np,xp,h,ht⟩:=h
 exact zsz h
end Go.Proofs.YtjaioajjfiaheaaGreatDoor

/-
  Texts of this claim, one behind the other.
-/
import Derived.Test.YtamdifhibogdiaaGreatDoorX9
import Derived.Test.YtamdifhibogdiaaGreatDoorX7
import Derived.Test.YtamdifhibogdiaaGreatDoorRows
import Derived.Test.YtamdifhibogdiaaGreatDoorX1
import Derived.RangeFuncFrom
import Derived.RangeFuncBound
import Derived.Shelf.Abstract
import Derived.OwnWalkIn
import Derived.TacticsInMore
import Derived.LoopNIn
import Derived.LoopIn
import GoSem.Core.Float
import Derived.Laws.FloatArith
import Derived.WalkKit
import Derived.WalkSpells
import Derived.WalkLawsBesides
import Derived.Lib.Hide
set_option linter.unusedVariables false
set_option linter.unusedSimpArgs false
set_option maxHeartbeats 16000000
set_option maxRecDepth 100000
open Array renaming replicate_succ→fe,replicate_zero→fo
open Int renaming compare_eq_eq→bB,compare_eq_gt→bV,compare_eq_lt→bU,eq_ofNat_of_zero_le→gN,lt_trichotomy→lV,min_comm→mi,mul_lt_mul_of_pos_right→bR,natAbs_natCast→lK,natCast_mul→fZ,neg_mul→mI
open List renaming append_toArray→fB,cons_append→dF,foldl_cons→fH,getElem?_eq_none→qc,getElem?_map→uV,length→fq,length_cons→uh,length_map→yf,length_nil→fU,length_set→Vo,length_take→Ku,map_map→gq,map_set→gu,mem_range→bW,nil_append→uo,push_toArray→fG,range→uf,size_toArray→dH
open Nat renaming compare_eq_eq→lU,compare_eq_lt→lT,div_eq_of_lt→fO,le_of_lt→dB,le_refl→xc,log2_lt→mH,log2_self_le→fM,lt_log2_self→dW,lt_of_lt_of_le→bI,max_comm→mo,min_eq_left→cz,mod_eq_of_lt→dw,mul_add_div→l8,mul_add_mod→l9,mul_assoc→dR,mul_comm→dG,mul_div_cancel→lI,mul_le_mul_right→uP,mul_lt_mul_of_pos_right→bD,mul_one→dN,mul_pos→mG,one_mul→dO,pos_of_ne_zero→lJ,pow_add→bA,pow_le_pow_right→lu,pow_zero→dM,reduceAdd→gL,reduceSub→gM,shiftLeft_eq→bF,two_pow_pos→uT,zero_le→gX,zero_mul→dQ
open UInt64 renaming ofNat→wF
namespace Go.Mem
open RowKit Ops
structure Str where
 a:Option Addr
 cap:Nat
 bs:List UInt8
def Str.val (s:Str):Value:=.slice s.a s.bs.length s.cap
structure Str.In (w:World) (s:Str):Prop where
 le:s.bs.length≤s.cap
 lies:zr w s.a (s.bs.map B)
theorem Str.In.below {w w':World} {s:Str} (h:s.In w) (hb:Below w.heap.size w w'):s.In w':=⟨h.le,h.lies.below hb⟩
structure xY (w:World) (ao:Option Addr) (ss:List Str):Prop where
 lies:zr w ao (ss.map Str.val)
 each:∀ s∈ss,s.In w
theorem xY.below {w w':World} {ao:Option Addr} {ss:List Str} (h:xY w ao ss) (hb:Below w.heap.size w w'):xY w' ao ss:=⟨h.lies.below hb,fun s hs=>(h.each s hs).below hb⟩
def rowOf (ss:List Str):List (List UInt8):=ss.map (·.bs)
end Go.Mem
namespace Go.Proofs.YtamdifhibogdiaaGreatDoor
open RowKit Shelf Mem Ops Cells Oct Gf Trn Aes Ring Ezk Ezh
attribute [local irreducible] zE zN zO zM yu
attribute [local go_sem] Oper.semAt_some
abbrev Elt (w0:World):={ x:Nat×Str // x.1≤1000∧x.2.bs.length≤10000∧x.2.In w0 }
abbrev encE {w0:World} (x:Elt w0):Array Value:=#[.int .i64 (x.1.1:Int),x.1.2.val]
theorem W6 (n:Nat) (l Bs n₀ len cap:Nat) (ao:Option Addr) (w0:World) (xs:List (Elt w0)) (hlen:xs.length=len) (hlb:len≤500) (zjX:∀ k x,xs[k]? = some x→x.1.1=3+k) (J Jx:List (Elt w0)→World→Prop)
  (hY:∀ pre (x:Elt w0) W,J pre W→pre.length < len→YieldAt Fence.wide (n - 1) Tryz.prog l (encE x) W fun e W' =>
   (e=.returned (.bool true)∧J (pre++[x]) W'∧Below n₀ W W')∨(e=.returned (.bool false)∧Jx (pre++[x]) W'))
  (W:World) (hBs:W.cell? ⟨Bs,0,none⟩=some (.slice ao len cap)) (hc:zr W ao (xs.map fun x=>x.1.2.val)) (hb:0 < len→∀ b off,ao=some ⟨b,off,none⟩→b < n₀) (h0:J [] W) :
  CallsIn Fence.wide n Tryz.prog 265 #[.func (.yield l) #[] #[],.pointer (some ⟨Bs,0,none⟩)] W fun e W'=>(∃ v,e=.returned v) ∧
   ((∃ ys,ys=xs∧J ys W')∨(∃ pre,True∧Jx pre W')):=by
 have HL:=znq hlen
 have HC:=znq hc
 have HB:=znq hb
 clear hlen hc hb
 refine callsIn_of_wp Tryz.func265 rfl trivial ?_ rfl
 simp only [Tryz.ntmps265,dH,uh,fU,gL,gM,fe,fo,fG,fB,uo,dF]
 gi_wp2
 gi_loopw [7] (fun i wr=>∃ k:Nat,k≤len∧i=.int .i64 k∧J (xs.take k) wr∧Below n₀ W wr) (fun i _=>len - (intOf i).toNat)
 case atStart=>exact ⟨0,gX _,rfl,h0,Below.refl _ _⟩
 case round =>
  obtain ⟨k,hk,rfl,hJs,hnx⟩:=hrel
  by_cases hlt:k < len
  ·obtain ⟨x,hx⟩:∃ x,xs[k]? = some x:=⟨xs[k]'(by rw [HL.znr];exact hlt),by simp⟩
   obtain ⟨b,off,rfl,hcx0⟩:=HC.znr k x.1.2.val (by rw [uV,hx];rfl)
   have hcx:=(hnx.cell (p:=⟨b,off+k,none⟩) (HB.znr (by omega) b off rfl)).trans hcx0
   have hx3:(3:Int)+(k:Int)=(x.1.1:Int):=by rw [zjX k x hx];omega
   have HX:=znq hx
   obtain ⟨fn,tmps,assign,body,hy,hR⟩:=hY (xs.take k) x wr hJs (by rw [Ku,HL.znr];omega)
   have hle1:x.1.1≤1000:=x.2.1
   have HSN:=znq (show xs.take (k+1)=xs.take k++[x]∧True from ⟨by rw [List.take_add_one,hx];rfl,trivial⟩)
   clear hx
   gi_wp2
   refine ⟨fun hh=>(by cases hh),hR.mono ?_⟩
   rintro e W3 (⟨rfl,hJ3,hk3⟩ | ⟨rfl,hJx3⟩)
   ·gi_wp2
    go_roundw
    case rel=>exact ⟨k+1,by omega,by simp,by rw [HSN.znr.1];exact hJ3,hnx.trans hk3⟩
    case measure=>simp [intOf];omega
   ·gi_wp2
    refine bodyPost_ret (results_none rfl _ _ _) rfl ?_
    exact ⟨⟨_,rfl⟩,.inr ⟨_,trivial,hJx3⟩⟩
  ·obtain rfl:k=len:=by omega
   rw [List.take_of_length_le (by rw [HL.znr];exact xc _)] at hJs
   gi_wp2
   go_end0
   exact ⟨⟨_,rfl⟩,.inl ⟨_,rfl,hJs⟩⟩
theorem Jr (n:Nat) (Bs n₀ len cap:Nat) (ao:Option Addr) (w0 w:World) (xs:List (Elt w0)) (hlen:xs.length=len) (hlb:len≤500) (zjX:∀ k x,xs[k]? = some x→x.1.1=3+k)
  (hBs:Bs < w.heap.size) (hc0:w.cell? ⟨Bs,0,none⟩=some (.slice ao len cap)) (hc:zr w ao (xs.map fun x=>x.1.2.val)) (hb:0 < len→∀ b off,ao=some ⟨b,off,none⟩→b < n₀) :
  SeqStopsK Fence.wide n Tryz.prog 265 #[.pointer (some ⟨Bs,0,none⟩)] (fun x:Elt w0=>encE x) (Below n₀) (fun ys=>ys=xs) (fun _=>True) len w:=fun l J Jx W hW _ _ hY h0 =>
 W6 n l Bs n₀ len cap ao w0 xs hlen hlb zjX J Jx hY W ((hW.cell (p:=⟨Bs,0,none⟩) hBs).trans hc0) (hc.below hW) hb h0
theorem zb3 (n:Nat) (ao:Option Addr) (len cap:Nat) (w:World) :
  CallsIn Fence.wide n Tryz.prog 244 #[.slice ao len cap] w fun e w'=>e=.returned (.func (.func 265) #[] #[.pointer (some ⟨w.heap.size,0,none⟩)])∧w'=w.alloc (.cells #[.slice ao len cap] 173):=by
 refine callsIn_of_wp Tryz.func244 rfl trivial ?_ rfl
 simp only [Tryz.ntmps244,dH,uh,fU,gL,gM,fe,fo,fG,fB,uo,dF]
 gi_wp2
 go_ret
 exact ⟨rfl,rfl⟩
theorem Yr {W W':World} (h:Below W.heap.size W W'):KeepsOthers W W':=⟨h.size,fun k o hk _=>(h.block k (Array.getElem?_eq_some_iff.1 hk).1).trans hk⟩
theorem VC {W W':World} {b:Nat} {vs:List Value} {ty:TypeId} (hb:Blk W b vs ty) (h:Only b W W'):KeepsOthers W W':=⟨by rw [h.size];exact xc _,fun k o hk ho=>by
 by_cases e:k=b
 ·subst e
  rw [show W.heap[k]? = _ from hb] at hk
  cases hk
  cases ho
 ·exact (h.block k e).trans hk⟩
theorem W7 {β:Type} (b:Nat) (ty:TypeId) (f:β→List Value):Own (fun s W=>Blk W b (f s) ty):=fun s X Y row hs hg hrow =>
 (hg.block b hs.lt (fun e'=>by
  obtain ⟨o,ho,hc⟩:=hrow b e'.symm
  rw [show X.heap[b]? = _ from hs] at ho
  cases ho
  cases hc)).trans hs
theorem Js (w0:World):∀ (ss:List Str) (j:Nat),(∀ s∈ss,s.bs.length≤10000∧s.In w0)→j+ss.length≤1000→∃ xs:List (Elt w0),xs.length=ss.length∧(∀ k x,xs[k]? = some x→x.1.1=j+k)∧xs.map (fun x=>x.1.2)=ss
 | [],_,_,_=>⟨[],rfl,fun _ _ h=>by simp at h,rfl⟩
 | s::r,j,h,hj=>by
  obtain ⟨xs,h1,h2,h3⟩:=Js w0 r (j+1) (fun t ht=>h t (List.mem_cons_of_mem _ ht)) (by simp at hj;omega)
  refine ⟨⟨(j,s),by simp at hj;omega,(h s (by simp)).1,(h s (by simp)).2⟩::xs,by simp [h1],?_,by simp [h3]⟩
  intro k x hx
  cases k with
  | zero=>simp at hx;subst hx;rfl
  | succ k=>rw [List.getElem?_cons_succ] at hx;rw [h2 k x hx];omega
def Y1 {w0:World} (k:zv) (pre:List (Elt w0)):List UInt8:=pre.foldl (fun s x=>both s (kP k x.1.1 x.1.2.bs)) (zf 16)
theorem Wg {w0:World} (k:zv) (pre:List (Elt w0)) (x:Elt w0):Y1 k (pre++[x])=both (Y1 k pre) (kP k x.1.1 x.1.2.bs):=by simp [Y1]
theorem wB {w0:World} (k:zv) (pre:List (Elt w0)):(Y1 k pre).length=16:=by
 rcases List.eq_nil_or_concat pre with rfl | ⟨p,x,rfl⟩
 ·exact zd 16
 ·rw [List.concat_eq_append,Wg];exact zB _ _
theorem zfy {w0:World} (k:zv):∀ (xs:List (Elt w0)) (j:Nat) (s:List UInt8),(∀ i x,xs[i]? = some x→x.1.1=j+i)→xs.foldl (fun s x=>both s (kP k x.1.1 x.1.2.bs)) s=Ja k j s (xs.map fun x=>x.1.2.bs)
 | [],_,_,_=>rfl
 | x::r,j,s,h=>by
  have h0:=h 0 x rfl
  simp only [fH,List.map_cons,Ja]
  rw [zfy k r (j+1) _ (fun i y hy=>by rw [h (i+1) y (by simpa using hy)];omega),h0]
  rfl
theorem KM (kp q p:Nat) (k:zv) (ao:Option Addr) (n cap:Nat) (ss:List Str) (w:World) (hk:xH w kp q p k) (hn:ss.length=n) (hn1:n≤500) (hs:xY w ao ss) (hlen:∀ s∈ss,s.bs.length≤10000) :
  Calls Tryz.prog 209 #[.pointer (some ⟨kp,0,none⟩),.slice ao n cap] w fun e w'=>e=.returned (.agg ((qB k (rowOf ss)).map B).toArray)∧Below w.heap.size w w':=by
 have HK:=znq hk
 have HN:=znq hn
 have HS:=znq hs
 have HLEN:=znq hlen
 clear hk hn hs hlen
 refine (callsIn_wide (n:=6)).1 ?_
 refine callsIn_of_wp_marks Tryz.func209 rfl trivial ?_ rfl
 simp only [Tryz.ntmps209,dH,uh,fU,gL,gM,fe,fo,fG,fB,uo,dF]
 have HST:=znq (St.start w)
 refine wpIn_seq (wpIn_wide.2 ?_)
 go_wp2_with (refine zh 223 _ [.pointer (some ⟨kp,0,none⟩)] _ rfl rfl rfl rfl ?_)
 intro w1 hb hbel;have HST:=znq (HST.znr.push hb hbel);have hlt1:=hb.lt;clear hb hbel
 go_wp2_with (refine ze 59 ((zf 16).map B) _ rfl rfl zj rfl ?_)
 intro w2 hb hbel;have HST:=znq (HST.znr.push hb hbel);have hlt2:=hb.lt;clear hb hbel
 go_wp2
 refine wpIn_seq (wpIn_wide.2 ?_)
 go_wp2_with (refine ze 59 ((zf 16).map B) _ rfl rfl zj rfl ?_)
 intro w3 hb hbel;have HST:=znq (HST.znr.push hb hbel);have hlt3:=hb.lt;clear hb hbel
 go_wp2
 refine wpIn_seq (wpIn_wide.2 ?_)
 go_wp2_with fail
 refine (callsIn_wide.1 (zb3 1 ao n cap _)).mono ?_
 rintro e w4 ⟨rfl,hw4⟩
 have HST:=znq (show St w w.heap.size w4 _ by rw [hw4];exact HST.znr.push (Blk.new w3 [.slice ao n cap] 173) (zD w3 _))
 have zaE:w3.heap.size < w4.heap.size:=by rw [hw4];simp
 clear hw4
 generalize hbb:w.heap.size=bb at *
 generalize w1.heap.size=bw1 at *
 generalize w2.heap.size=bw2 at *
 generalize w3.heap.size=bw3 at *
 have HBB:=znq hbb
 clear hbb
 go_wp2
 obtain ⟨xs,hx1,hx2,hx3⟩:=Js w ss 3 (fun s hs=>⟨HLEN.znr s hs,HS.znr.each s hs⟩) (by rw [HN.znr];omega)
 have HSUM:=znq (show Y1 k xs=qB k (rowOf ss)∧True from ⟨by
  unfold Y1
  rw [zfy k xs 3 _ hx2]
  unfold qB rowOf
  rw [← hx3,gq]
  rfl,trivial⟩)
 have hcl:zr w4 ao (xs.map fun x=>x.1.2.val):=by
  have:=HS.znr.lies.below (show Below w.heap.size w w4 by rw [HBB.znr];exact HST.znr.bel)
  rw [← hx3,gq] at this
  exact this
 have hbl:0 < n→∀ b off,ao=some ⟨b,off,none⟩→b < bb:=by
  intro h0 b off hao
  obtain ⟨b',off',e,hlt,_⟩:=HS.znr.lies.at (by intro h;have:=congrArg fq h;simp [HN.znr] at this;omega)
  rw [hao] at e
  cases e
  rw [← HBB.znr]
  exact hlt
 have HST:=HST.znr
 refine (wpIn_wide (n:=5)).1 ?_
 refine wpIn_rangeFunc_ownF rfl (by omega) (gf:=265) (lb:=#[.pointer (some ⟨bw3,0,none⟩)]) rfl trivial (enters_of Tryz.func265 (by kernel_rfl) rfl)
  (Jr 4 bw3 bb n cap ao w w4 xs (hx1.trans HN.znr) hn1 hx2 (by omega) ((HST.get 0 rfl).cell 0 _ rfl) hcl hbl) belowK_t (belowK_b (by omega)) (Below.refl _ _) (fun _=>rfl)
  (fun pre W=>(Blk W bw2 ((Y1 k pre).map B) 59∧Blk W bw1 ((zf 16).map B) 59∧Blk W bb [.pointer (some ⟨kp,0,none⟩)] 223)∧Below bb w W)
  (fun _ _ _=>False)
  (OwnFrom.and (Own.from (fun s A B' row hs hg hr=>⟨W7 bw2 _ (fun pre=>(Y1 k pre).map B) s A B' row hs.1 hg hr,W7 bw1 _ (fun _=>(zf 16).map B) s A B' row hs.2.1 hg hr,W7 bb _ (fun _=>[.pointer (some ⟨kp,0,none⟩)]) s A B' row hs.2.2 hg hr⟩) _) (ownFrom_below (by rw [HBB.znr];exact xc _) (by omega)))
  (fun _ _ _ _ _ hs _ _=>hs)
  ⟨⟨HST.get 1 rfl,HST.get 2 rfl,HST.get 3 rfl⟩,HST.bel⟩
  (fun x=>{ tmps:=#[.pointer (some ⟨kp,0,none⟩),.slice ao n cap,.pointer (some ⟨bb,0,none⟩),undef,.pointer (some ⟨bw1,0,none⟩),.pointer (some ⟨bw2,0,none⟩),.int .i64 (x.1.1:Int),x.1.2.val,.slice ao n cap,.func (.func 265) #[] #[.pointer (some ⟨bw3,0,none⟩)],.int .i64 (x.1.1:Int),x.1.2.val,undef,undef,undef,undef,undef,undef,undef],defers:=[] }) ?assign ?body ?done ?stop
 case assign =>
  intro l x W K hK
  gi_wp2
  exact hK
 case body =>
  rintro l pre x W ⟨⟨hb2,hb1,hb0⟩,hB⟩ _
  have HB2:=znq hb2
  have HB1:=znq hb1
  have HB0:=znq hb0
  have HB:=znq hB
  have HXL:=znq (wB k pre)
  have HXM:=znq (show ((Y1 k pre).map B).length=16 by rw [yf];exact wB k pre)
  have HSN:=znq (show Y1 k (pre++[x])=both (Y1 k pre) (kP k x.1.1 x.1.2.bs)∧True from ⟨Wg k pre x,trivial⟩)
  have HXI:=znq (show x.1.2.In W from x.2.2.2.below (by rw [HBB.znr];exact hB))
  have HKW:=znq (HK.znr.later (show Below w.heap.size w W by rw [HBB.znr];exact hB))
  have zfT:=x.2.1
  have zdS:=x.2.2.1
  clear hb2 hb1 hb0 hB
  have hbW:bb≤W.drew.heap.size:=dB HB0.znr.lt
  have hc:=fun (y:zG W.drew)=>(HB0.znr.drew.below y.later HB0.znr.drew.lt).cell 0 _ rfl
  refine wpIn_block ?_
  refine VB [0,1,2,3,4,5,6] (by kernel_rfl) (by kernel_rfl) (by kernel_rfl) ?_
  rintro w5 rfl
  refine zt HB2.znr.drew.range HB2.znr.drew.lt zc HXM.znr rfl rfl rfl rfl (fun K hK=>?_)
  go_simp;refine hK _ ?_;clear hK K
  refine mqR ?_
  clear hc
  refine zi rfl rfl (by rfl) (fun K hK=>?_)
  go_simp
  refine (zjy kp q p x.1.1 k x.1.2.a x.1.2.bs.length x.1.2.cap x.1.2.bs _ HKW.znr.drew zfT rfl HXI.znr.le zdS (HXI.znr.lies.below (Below.refl _ _).drew)).mono ?_
  rintro e w6 ⟨rfl,mQ⟩
  have HKE:=znq ((KeepsOthers.drew W).trans (Yr mQ))
  have HB2:=znq (HB2.znr.drew.below mQ HB2.znr.lt)
  have HB1:=znq (HB1.znr.drew.below mQ HB1.znr.lt)
  have HB0:=znq (HB0.znr.drew.below mQ HB0.znr.lt)
  have HBW:=znq ((Below.refl bb W).drew.trans (mQ.mono hbW))
  have HPL:=znq (WT k x.1.1 x.1.2.bs)
  go_simp
  refine hK _ _ mQ ?_
  clear hK K mQ
  refine zi rfl rfl (by rfl) (fun K hK=>?_)
  go_simp
  refine (Jl (Y1 k pre) (kP k x.1.1 x.1.2.bs) _ HXL.znr HPL.znr).mono ?_
  rintro e w7 ⟨rfl,ny⟩
  rw [← HSN.znr.1]
  have HKE:=znq (HKE.znr.trans (Yr ny))
  have HBW:=znq (HBW.znr.trans (ny.mono (dB HB0.znr.lt)))
  have HB2:=znq (HB2.znr.below ny HB2.znr.lt)
  have HB1:=znq (HB1.znr.below ny HB1.znr.lt)
  have HB0:=znq (HB0.znr.below ny HB0.znr.lt)
  have HSL:=znq (show ((Y1 k (pre++[x])).map B).length=16 by rw [yf];exact wB k _)
  go_simp
  refine hK _ _ ny ?_
  clear hK K ny
  refine zp rfl rfl (by rfl) (fun K hK=>?_)
  refine HB2.znr.mZ rfl rfl rfl zc HXM.znr HSL.znr (zg _) (fun w8 hb8 ho8=>hK _ _ ?_)
  clear hK K
  have HKE:=znq (HKE.znr.trans (VC HB2.znr ho8))
  have HBW:=znq (zk HBW.znr ho8 (by omega))
  have HB1:=znq (HB1.znr.only ho8 (by omega))
  have HB0:=znq (HB0.znr.only ho8 (by omega))
  go_simp
  refine zo ?_
  exact ⟨HKE.znr,HBW.znr,⟨hb8,HB1.znr,HB0.znr⟩,HB.znr.trans HBW.znr⟩
 case done =>
  rintro D ys W hD rfl ⟨⟨hb2,hb1,hb0⟩,hB⟩ hK
  have HB2:=znq hb2
  have HB1:=znq hb1
  have HB:=znq hB
  have HXM:=znq (show ((Y1 k ys).map B).length=16 by rw [yf];exact wB k ys)
  clear hb2 hb1 hb0 hB
  gi_wp2_with (refine QP _ _ _ ?_)
  refine HB2.znr.mP rfl rfl rfl zc HXM.znr ?_
  refine HB1.znr.mM rfl rfl rfl rfl zc (by rw [yf];exact zd 16) HXM.znr (zg _) ?_
  intro w8 hb8 ho8
  have hK':=(ho8.block D (by omega)).trans hK
  refine VA ?_
  go_simp
  gi_wp2
  refine ⟨by simp,.inl ⟨_,_,rfl,run_takeDeferred hK',?_⟩⟩
  have hbD:Blk (w8.putObj D (.deferred none)) bw1 ((Y1 k ys).map B) 59:=(World.putObj_heap_other (by omega)).trans hb8
  obtain ⟨d,hu,hd',hi⟩:=zc.open
  refine ⟨.agg ((Y1 k ys).map B).toArray,results_cell_row rfl _ _ _ _ _ _ _ rfl hbD hu (by cases d <;> simp_all [TypeDesc.isRow]) (by rw [hi];simp [HXM.znr]),by rw [HSUM.znr.1],?_⟩
  rw [HBB.znr]
  exact (zk HB.znr ho8 (by omega)).trans (belowK_b (w:=w4) (by omega) _ D _ _ (by omega) hK' rfl rfl)
 case stop =>
  rintro D c pre W _ _ h _
  exact h.elim
end Go.Proofs.YtamdifhibogdiaaGreatDoor
namespace Go.Proofs.YtamdifhibogdiaaGreatDoor
open RowKit Mem Ops Cells Oct Gf Trn Aes Ring Ezk Ezh Ezt ru
attribute [local irreducible] zE zN zO zM yu
theorem zb4 (ao:Option Addr) (n cap:Nat) (ks:List (List UInt8)) (w:World) (hn:ks.length=n) (hnb:n≤1099511627776) (hk:yB 16 w ao ks) :
  Calls Tryz.prog 259 #[.slice ao n cap] w fun e w'=>e=.returned (.agg ((plusB ks).map B).toArray)∧Below w.heap.size w w':=by
 have HN:=znq hn
 have HK:=znq hk
 have HS:=znq (St.start w)
 have HZ:=znq (zd 16)
 clear hn hk
 go_enter Tryz.func259,Tryz.ntmps259
 go_wp2_with (refine ze 59 ((zf 16).map B) _ rfl rfl zj rfl ?_)
 intro w1 hb hbel;have HS:=znq (HS.znr.push hb hbel);have hlt1:=hb.lt;clear hb hbel
 go_wp2_with (refine ze 59 ((zf 16).map B) _ rfl rfl zj rfl ?_)
 intro w2 hb hbel;have HS:=znq (HS.znr.push hb hbel);have hlt2:=hb.lt;clear hb hbel
 generalize hbb:w.heap.size=bb at *
 generalize w1.heap.size=br at *
 have HBB:=znq hbb
 clear hbb
 go_wp2
 go_loopw [9] (fun c wr=>∃ (i:Nat) (y:List UInt8),i≤n∧c=.int .i64 i∧Hid (y.length=16)∧Hid ((ks.drop i).foldl both y=plusB ks∧True)∧Hid (St w bb wr [(br,y.map B,59),(bb,(zf 16).map B,59)])) (fun c _=>n - (intOf c).toNat)
 case atStart=>exact ⟨0,zf 16,by omega,rfl,HZ,⟨rfl,trivial⟩,HS⟩
 case round =>
  clear HS
  obtain ⟨i,y,hi,rfl,HY,HE,HS⟩:=hrel
  have HYM:=znq (show (y.map B).length=16 by rw [yf];exact HY.znr)
  by_cases hlt:i < n
  ·have hget:ks[i]? = some (key ks i):=kB (by rw [HN.znr];exact hlt)
   obtain ⟨kb,nI,rfl,hkb,hr⟩:=(HK.znr.below (by rw [HBB.znr];exact HS.znr.bel)).range (by omega) hget
   have HKL:=znq (show (key ks i).length=16 from HK.znr.each _ (List.mem_of_getElem? hget))
   have tY:=znq (show ((key ks i).map B).length=16 by rw [yf];exact HKL.znr)
   have HE:=znq (show (ks.drop (i+1)).foldl both (both y (key ks i))=plusB ks∧True from ⟨by
    rw [← HE.znr.1,List.drop_eq_getElem_cons (l:=ks) (i:=i) (by rw [HN.znr];exact hlt),fH]
    congr 2
    have:=List.getElem?_eq_getElem (l:=ks) (i:=i) (by rw [HN.znr];exact hlt)
    rw [hget] at this
    exact Option.some.inj this,trivial⟩)
   have HR:=znq hr
   generalize key ks i=k at *
   clear hget hr
   go_wp2_with (first | (refine wpList_load_mid rfl 59 (.tmp 11) rfl kb (nI+i*16) rfl _ _ HR.znr Tryz.underlying59 rfl (by rw [tY.znr];exact zc.2) ?_) | (refine ze 59 ((zf 16).map B) _ rfl rfl zj rfl ?_))
   intro w3 hb hbel;have hz1:=(HS.znr.get 0 rfl).lt;have hz0:=(HS.znr.get 1 rfl).lt;have HS:=znq (HS.znr.push hb hbel);have hlt3:=hb.lt;clear hb hbel
   generalize wr.heap.size=bk at *
   go_wp2_with (refine (HS.znr.get 0 rfl).mM rfl rfl rfl rfl zc (by simp [zd]) tY.znr (zg _) ?_)
   intro w4 hb4 ho4
   have HS:=znq (HS.znr.change 0 hb4 ho4 (by omega) (by simp;omega))
   clear hb4 ho4
   go_wp2
   go_loopw [13] (fun c wr=>∃ (j:Nat) (l:List UInt8),j≤16∧c=.int .i64 j∧Hid (l.length=16)∧Hid (∀ i,i < j→l[i]? = some (ya (at8 y i) (at8 k i)))∧Hid (∀ i,j≤i→l[i]? = y[i]?)∧Hid (St w bb wr [(bk,k.map B,59),(br,l.map B,59),(bb,(zf 16).map B,59)])) (fun c _=>16 - (intOf c).toNat)
   case atStart=>exact ⟨0,y,by omega,rfl,HY,fun i hi=>absurd hi (by omega),fun i _=>rfl,HS⟩
   case round =>
    clear HS
    obtain ⟨j,l,hj,rfl,HLL,HL1,HL2,HS⟩:=hrel
    by_cases hlt2:j < 16
    ·have hd:decide ((j:Int) < 16)=true:=by simp;omega
     have hx:l[j]? = some (at8 y j):=by rw [HL2.znr j (xc _)];exact q4 (by rw [HY.znr];omega)
     have hc1:=fun (x:zG wr.drew)=>((HS.znr.drew.later x.later).get 1 rfl).cell j _ (zU hx)
     have hc2:=fun (x:zG wr.drew)=>((HS.znr.drew.later x.later).get 0 rfl).cell j _ (zU (q4 (b:=k) (i:=j) (by rw [HKL.znr];omega)))
     clear hx
     go_wp2_with fail
     refine zn [0,1,2,3,4,5,6,7,8] (by kernel_rfl) (by kernel_rfl) ?_
     rintro w5 rfl
     refine mqR ?_
     clear hc1 hc2
     refine zp rfl rfl (by rfl) (fun K hK=>?_)
     refine (HS.znr.drew.get 1 rfl).nO (v:=B (ya (at8 y j) (at8 k j))) rfl rfl rfl zl rfl rfl (by rw [yf,HLL.znr];omega) (fun w6 hb6 ho6=>hK _ _ ?_)
     clear hK K
     rw [ym] at hb6
     have HS:=znq (HS.znr.drew.change 1 hb6 ho6 (by omega) (by simp;omega))
     clear ho6 hb6
     go_simp
     refine zo ?_
     go_wp2
     go_roundw
     case rel=>exact ⟨j+1,_,by omega,rfl,(by rw [Vo];exact HLL.znr),(kO hlt2 HLL.znr HL1.znr HL2.znr).1,(kO hlt2 HLL.znr HL1.znr HL2.znr).2,HS⟩
     case measure=>simp [intOf];omega
    ·obtain rfl:j=16:=by omega
     have hle:=YN HLL.znr HL1.znr
     rw [hle] at HS
     have HS:=znq HS.znr.tail
     clear hle
     go_wp2
     go_roundw
     case rel=>exact ⟨i+1,_,by omega,by go_num,zB _ _,HE,HS⟩
     case measure=>simp [intOf];omega
  ·obtain rfl:i=n:=by omega
   have HE:=znq (show y=plusB ks∧True from ⟨by rw [← HE.znr.1,List.drop_eq_nil_of_le (by rw [HN.znr];omega)];rfl,trivial⟩)
   go_wp2_with (first | (refine (HS.znr.get 0 rfl).mP rfl rfl rfl zc HYM.znr ?_) | (refine (HS.znr.get 1 rfl).mM rfl rfl rfl rfl zc (by rw [yf];exact zd 16) HYM.znr (zg _) ?_))
   intro w6 hb6 ho6
   have mQ:=zk HS.znr.bel ho6 (by omega)
   go_wp2
   refine hb6.result rfl rfl rfl zc HYM.znr ⟨by rw [HE.znr.1],?_⟩
   rw [HBB.znr]
   exact mQ
def xy (n i:Nat):List UInt8:=(uf 16).map fun k=>if 16 - i≤k then at8 (zz (wF n)) (15 - k) else 0
theorem qn (n i:Nat):(xy n i).length=16:=by simp [xy]
theorem wS (n i k:Nat) (h:k < 16):(xy n i)[k]? = some (if 16 - i≤k then at8 (zz (wF n)) (15 - k) else 0):=by
 unfold xy
 rw [uV,List.getElem?_range h]
 rfl
theorem Jt (n:Nat):xy n 0=zf 16:=by
 refine Yl (qn _ _) (zd 16) fun k hk=>?_
 rw [zny (wS n 0 k hk),if_neg (by omega),QM]
theorem Ju (n:Nat):xy n 8=qX n:=by
 unfold xy qX
 apply List.map_congr_left
 intro k hk
 have:k < 16:=by simpa using hk
 by_cases h:k < 8
 ·rw [if_neg (by omega),if_pos h]
 ·rw [if_pos (by omega),if_neg h]
theorem Jv (n:Nat) {i:Nat} (hi:i < 8):(xy n i).set (15 - i) (at8 (zz (wF n)) i)=xy n (i+1):=by
 apply List.ext_getElem?
 intro k
 by_cases hk:k < 16
 ·rw [List.getElem?_set,qn,wS n i k hk,wS n (i+1) k hk]
  by_cases e:15 - i=k
  ·rw [if_pos e,if_pos (by omega),if_pos (by omega)]
   congr 2
   omega
  ·rw [if_neg e]
   by_cases h:16 - i≤k
   ·rw [if_pos h,if_pos (by omega)]
   ·rw [if_neg h,if_neg (by omega)]
 ·rw [qc (by rw [Vo,qn];omega),qc (by rw [qn];omega)]
theorem zb5 (n:Nat) (w:World) (hn:n≤1000):Calls Tryz.prog 261 #[.int .i64 n] w fun e w'=>e=.returned (.agg ((qX n).map B).toArray)∧Below w.heap.size w w':=by
 have HS:=znq (St.start w)
 have HPL:=znq (zK (wF n))
 have HLN:=znq (show Value.int .u64 (n:Int)=L (wF n) from by
  have:(wF n).toNat=n:=UInt64.toNat_ofNat_of_lt' (by show n < 18446744073709551616;omega)
  simp [L,this])
 go_enter Tryz.func261,Tryz.ntmps261
 go_wp2_with (refine ze 59 ((zf 16).map B) _ rfl rfl zj rfl ?_)
 intro w1 hb hbel;have HS:=znq (HS.znr.push hb hbel);have hlt1:=hb.lt;clear hb hbel
 go_wp2_with (refine ze 59 ((zf 16).map B) _ rfl rfl zj rfl ?_)
 intro w2 hb hbel;have HS:=znq (HS.znr.push hb hbel);have hlt2:=hb.lt;clear hb hbel
 generalize hbb:w.heap.size=bb at *
 generalize w1.heap.size=br at *
 have HBB:=znq hbb
 clear hbb
 go_wp2_with fail
 rw [HLN.znr]
 refine (kH (wF n) _).mono ?_
 rintro e w3 ⟨rfl,mY⟩
 have HS:=znq (show St w bb w3 [(br,(xy n 0).map B,59),(bb,(zf 16).map B,59)] by rw [Jt];exact HS.znr.later mY)
 clear mY HLN
 go_wp2
 go_loopw [9] (fun c wr=>∃ i:Nat,i≤8∧c=.int .i64 i∧Hid (St w bb wr [(br,(xy n i).map B,59),(bb,(zf 16).map B,59)])) (fun c _=>8 - (intOf c).toNat)
 case atStart=>exact ⟨0,by omega,rfl,HS⟩
 case round =>
  clear HS
  obtain ⟨i,hi,rfl,HS⟩:=hrel
  by_cases hlt:i < 8
  ·have hix:=fun w=>qF (P:=Tryz.prog) w 127 5 8 ((zz (wF n)).map B).toArray .i64 i (B (at8 (zz (wF n)) i)) Tryz.underlying127 (by kernel_rfl) zl (by simpa using zU (q4 (b:=zz (wF n)) (i:=i) (by rw [HPL.znr];exact hlt))) hlt
   obtain ⟨j,hj⟩:∃ j,j=15 - i:=⟨_,rfl⟩
   have e1:(15:Int) - (i:Int)=(j:Int):=by omega
   have hj16:j < 16:=by omega
   have HST:=znq (show (xy n i).set j (at8 (zz (wF n)) i)=xy n (i+1)∧True from ⟨by rw [hj];exact Jv n hlt,trivial⟩)
   clear hj
   go_wp2_with (refine (HS.znr.get 0 rfl).ry (v:=B (at8 (zz (wF n)) i)) (i:=j) rfl rfl rfl rfl zl rfl rfl (by rw [yf,qn];omega) ?_)
   intro w4 hb4 ho4
   rw [ym,HST.znr.1] at hb4
   have HS:=znq (show St w bb w4 [(br,(xy n (i+1)).map B,59),(bb,(zf 16).map B,59)] from HS.znr.change 0 hb4 ho4 (by omega) (by simp;omega))
   clear hb4 ho4 hix
   go_wp2
   go_roundw
   case rel=>exact ⟨i+1,by omega,by go_num,HS⟩
   case measure=>simp [intOf];omega
  ·obtain rfl:i=8:=by omega
   rw [Ju] at HS
   have HCM:=znq (show ((qX n).map B).length=16 by rw [yf];exact Yn n)
   go_wp2_with (first | (refine (HS.znr.get 0 rfl).mP rfl rfl rfl zc HCM.znr ?_) | (refine (HS.znr.get 1 rfl).mM rfl rfl rfl rfl zc (by rw [yf];exact zd 16) HCM.znr (zg _) ?_))
   intro w6 hb6 ho6
   have mQ:=zk HS.znr.bel ho6 (by omega)
   go_wp2
   refine hb6.result rfl rfl rfl zc HCM.znr ⟨rfl,?_⟩
   rw [HBB.znr]
   exact mQ
theorem ZJ (n:Nat) (w:World) (h1:1≤n) (h2:n≤31):Calls Tryz.prog 233 #[.int .i64 n] w fun e w'=>e=.returned (.int .i64 (yj n))∧w=w':=by
 by_cases e1:n=1
 ·subst e1
  go_enter Tryz.func233,Tryz.ntmps233
  go_wp2
  go_ret
  exact ⟨rfl,rfl⟩
 ·by_cases e2:n=2
  ·subst e2
   go_enter Tryz.func233,Tryz.ntmps233
   go_wp2
   go_ret
   exact ⟨rfl,rfl⟩
  ·have f1:((n:Int)==1)=false:=by simp;omega
   have f2:((n:Int)==2)=false:=by simp;omega
   by_cases e3:n < 16
   ·have HR:=znq (show yj n=10∧True from ⟨by unfold yj;rw [if_neg (by omega),if_neg e1,if_neg e2,if_pos e3],trivial⟩)
    rw [HR.znr.1]
    go_enter Tryz.func233,Tryz.ntmps233
    go_wp2
    go_ret
    exact ⟨rfl,rfl⟩
   ·have HR:=znq (show yj n=8∧True from ⟨by unfold yj;rw [if_neg (by omega),if_neg e1,if_neg e2,if_neg e3],trivial⟩)
    rw [HR.znr.1]
    go_enter Tryz.func233,Tryz.ntmps233
    go_wp2
    go_ret
    exact ⟨rfl,rfl⟩
end Go.Proofs.YtamdifhibogdiaaGreatDoor
namespace Go.Fl
open Ieee
def fl (n:Nat):Nat:=FloatKind.f64.nearest (n:Int)
theorem Wh (neg:Bool) (x d:Nat) (h:d≤(x*2 ^ d).log2+2):Toward.even.cut neg (x*2 ^ d) d=x:=by
 unfold Toward.cut
 simp only [cz h,bF,dO]
 have hp:0 < 2 ^ d:=uT d
 rw [lI _ hp,Nat.mul_mod_left]
 simp
theorem Qb (n K:Nat) (h:n≠0):(n*2 ^ K).log2=n.log2+K:=by
 have hK:0 < 2 ^ K:=uT K
 have h2:n*2 ^ K≠0:=by
  have:=mG (lJ h) hK
  omega
 refine (Nat.log2_eq_iff h2).2 ⟨?_,?_⟩
 ·rw [bA];exact uP _ (fM h)
 ·rw [show n.log2+K+1=(n.log2+1)+K by omega,bA]
  exact bD dW hK
theorem VD (n K:Nat) (h0:n≠0) (h:n < 2 ^ 53) :
  double.nearest false (n*2 ^ K) (-(K:Int))=(n.log2+1022)*2 ^ 52+n*2 ^ (52 - n.log2):=by
 have hL:n.log2≤52:=by
  have:=(mH h0).2 h
  omega
 have hK:0 < 2 ^ K:=uT K
 have h2:n*2 ^ K≠0:=by
  have:=mG (lJ h0) hK
  omega
 have hlow:2 ^ 52≤n*2 ^ (52 - n.log2):=by
  have h1:2 ^ n.log2*2 ^ (52 - n.log2)≤n*2 ^ (52 - n.log2):=uP _ (fM h0)
  rw [← bA,show n.log2+(52 - n.log2)=52 by omega] at h1
  exact h1
 have hup:n*2 ^ (52 - n.log2) < 2 ^ 53:=by
  have h1:n*2 ^ (52 - n.log2) < 2 ^ (n.log2+1)*2 ^ (52 - n.log2):=bD dW (uT _)
  rw [← bA,show n.log2+1+(52 - n.log2)=53 by omega] at h1
  exact h1
 unfold Format.nearest
 rw [if_neg h2]
 have hlp:double.leastPlace=-1074:=by decide
 have hlast:max (-(K:Int)+((n*2 ^ K).log2:Nat) - (double.fractionBits:Nat)) double.leastPlace=(n.log2:Int) - 52:=by
  rw [Qb n K h0,hlp]
  show max (-(K:Int)+((n.log2+K:Nat):Int) - 52) (-1074)=_
  omega
 simp only [hlast]
 have hkept:Toward.even.cut false ((n*2 ^ K) <<< (-(K:Int) - ((n.log2:Int) - 52)).toNat) ((n.log2:Int) - 52 - -(K:Int)).toNat=n*2 ^ (52 - n.log2):=by
  rw [bF]
  by_cases hc:K≤52 - n.log2
  ·rw [show ((n.log2:Int) - 52 - -(K:Int)).toNat=0 by omega,show (-(K:Int) - ((n.log2:Int) - 52)).toNat=52 - n.log2 - K by omega]
   rw [dR,← bA,show K+(52 - n.log2 - K)=52 - n.log2 by omega]
   have:=Wh false (n*2 ^ (52 - n.log2)) 0 (by omega)
   simpa using this
  ·rw [show (-(K:Int) - ((n.log2:Int) - 52)).toNat=0 by omega,show ((n.log2:Int) - 52 - -(K:Int)).toNat=K - (52 - n.log2) by omega]
   have e:n*2 ^ K*2 ^ 0=(n*2 ^ (52 - n.log2))*2 ^ (K - (52 - n.log2)):=by
    rw [dM,dN,dR,← bA,show 52 - n.log2+(K - (52 - n.log2))=K by omega]
   rw [e]
   refine Wh _ _ _ ?_
   rw [← e,dM,dN,Qb n K h0]
   omega
 rw [hkept,hlp]
 unfold Format.word
 simp only [Bool.false_eq_true,if_false]
 have ziG:double.infRung=2047*2 ^ 52:=by decide
 have hb:double.binade=2 ^ 52:=by decide
 rw [ziG,hb,show ((n.log2:Int) - 52 - -1074).toNat=n.log2+1022 by omega]
 have h53:(2:Nat) ^ 53=2*2 ^ 52:=by decide
 rw [h53] at hup
 generalize (2:Nat) ^ 52=p at *
 generalize n*2 ^ (52 - n.log2)=m at *
 have:(n.log2+1022)*p≤1074*p:=uP _ (by omega)
 rw [cz]
 omega
theorem Ys (K:Int):double.nearest false 0 K=0:=by
 unfold Format.nearest
 rfl
theorem zj6 (n:Nat):fl n=double.nearest false n 0:=by
 unfold fl FloatKind.nearest FloatKind.encode Format.write FloatKind.format
 simp only [lK]
 have:(decide ((n:Int) < 0))=false:=by simp
 rw [this]
theorem zj7 (n:Nat) (h0:n≠0) (h:n < 2 ^ 53):fl n=(n.log2+1022)*2 ^ 52+n*2 ^ (52 - n.log2):=by
 have:=VD n 0 h0 h
 rw [zj6]
 simpa using this
theorem zst (n K:Nat) (h:n < 2 ^ 53):double.write (.number false (n*2 ^ K) (-(K:Int)))=fl n:=by
 by_cases h0:n=0
 ·subst h0
  show double.nearest false (0*2 ^ K) _=_
  rw [dQ,Ys];rfl
 ·rw [zj7 n h0 h]
  exact VD n K h0 h
theorem W8 (k:Nat):0*2 ^ k=0:=dQ _
theorem zha:double.read 0=.number false 0 (-((1074:Nat):Int)):=by decide
theorem ZK (n:Nat) (h:n < 2 ^ 53):∃ k:Nat,double.read (fl n)=.number false (n*2 ^ k) (-(k:Int)):=by
 by_cases h0:n=0
 ·subst h0
  have e:fl 0=0:=by rw [zj6];exact Ys _
  obtain ⟨k,hk⟩:∃ k:Nat,k=1074:=⟨_,rfl⟩
  refine ⟨k,?_⟩
  rw [e,W8,hk]
  exact zha
 ·refine ⟨52 - n.log2,?_⟩
  have hL:n.log2≤52:=by
   have:=(mH h0).2 h
   omega
  have hlow:2 ^ 52≤n*2 ^ (52 - n.log2):=by
   have h1:2 ^ n.log2*2 ^ (52 - n.log2)≤n*2 ^ (52 - n.log2):=uP _ (fM h0)
   rw [← bA,show n.log2+(52 - n.log2)=52 by omega] at h1
   exact h1
  have hup:n*2 ^ (52 - n.log2) < 2 ^ 53:=by
   have h1:n*2 ^ (52 - n.log2) < 2 ^ (n.log2+1)*2 ^ (52 - n.log2):=bD dW (uT _)
   rw [← bA,show n.log2+1+(52 - n.log2)=53 by omega] at h1
   exact h1
  rw [zj7 n h0 h]
  generalize hm:n*2 ^ (52 - n.log2)=m at *
  have hb:double.binade=2 ^ 52:=by decide
  have hs:double.signWeight=2 ^ 63:=by decide
  have ziG:double.infRung=2047*2 ^ 52:=by decide
  have hlp:double.leastPlace=-1074:=by decide
  have hs2:(2:Nat) ^ 63=2048*2 ^ 52:=by decide
  have h53:(2:Nat) ^ 53=2*2 ^ 52:=by decide
  have hp:0 < (2:Nat) ^ 52:=by decide
  unfold Format.read
  rw [hb,hs,ziG,hlp,hs2]
  rw [h53] at hup
  clear hm hb hs ziG hlp hs2 h53 h
  generalize (2:Nat) ^ 52=p at *
  have hle:(n.log2+1022)*p≤1074*p:=uP _ (by omega)
  have hge:1022*p≤(n.log2+1022)*p:=uP _ (by omega)
  have e1:((n.log2+1022)*p+m) / (2048*p)=0:=by
   rw [Nat.div_eq_zero_iff];right
   omega
  have e2:((n.log2+1022)*p+m) % (2048*p)=(n.log2+1022)*p+m:=dw (by omega)
  simp only [e1,e2]
  rw [if_neg (by omega),if_pos (by omega)]
  have e6:m=p*1+(m - p):=by omega
  have e3:((n.log2+1022)*p+m) / p=n.log2+1023:=by
   rw [dG,l8 hp,e6,l8 hp,fO (by omega)]
  have e4:((n.log2+1022)*p+m) % p=m - p:=by
   rw [dG,l9,e6,l9,dw (by omega)]
   omega
  rw [e3,e4]
  have e5:p+(m - p)=m:=by omega
  rw [e5]
  have e7:(-1074:Int)+((n.log2+1023 - 1:Nat):Int)=-((52 - n.log2:Nat):Int):=by omega
  rw [e7]
  rfl
theorem Qc:fl 0=0:=by rw [zj6];exact Ys _
theorem vQ (m up:Nat):signed false m up=((m*2 ^ up:Nat):Int):=by
 unfold signed;simp [bF]
theorem scale (n k j:Nat):∃ d:Nat,(-(k:Int) - min (-(k:Int)) (-(j:Int))).toNat=d∧n*2 ^ k*2 ^ d=n*2 ^ max k j:=by
 refine ⟨max k j - k,by omega,?_⟩
 rw [dR,← bA,show k+(max k j - k)=max k j by omega]
theorem zsi (a b:Nat) (ha:a < 2 ^ 53) (hb:b < 2 ^ 53) (h:a+b < 2 ^ 53):floatBits .add .f64 (fl a) (fl b)=some (fl (a+b)):=by
 obtain ⟨k,hk⟩:=ZK a ha
 obtain ⟨j,hj⟩:=ZK b hb
 show ((double.read (fl a)).sum (double.read (fl b))).map double.write=_
 rw [hk,hj]
 simp only [Datum.sum]
 obtain ⟨d,hd,ed⟩:=scale a k j
 obtain ⟨c,hc,ec⟩:=scale b j k
 rw [mi] at hc
 rw [hd,hc,vQ,vQ,ed,ec,mo j k]
 have e1:((a*2 ^ max k j:Nat):Int)+((b*2 ^ max k j:Nat):Int)=(((a+b)*2 ^ max k j:Nat):Int):=by
  rw [Nat.add_mul];omega
 rw [e1]
 have e2:min (-(k:Int)) (-(j:Int))=-((max k j:Nat):Int):=by omega
 rw [e2]
 have hw:=zst (a+b) (max k j) h
 generalize (a+b)*2 ^ max k j=m at *
 have e3:(if (m:Int)=0 then (false && false) else decide ((m:Int) < 0))=false:=by
  split
  ·rfl
  ·simp
 rw [e3,lK]
 simp only [Option.map_some,hw]
theorem zb6 (a b:Nat) (ha:a < 2 ^ 53) (hb:b < 2 ^ 53):double.order (fl a) (fl b)=some (compare a b):=by
 obtain ⟨k,hk⟩:=ZK a ha
 obtain ⟨j,hj⟩:=ZK b hb
 unfold Format.order
 rw [hk,hj]
 simp only [Datum.order]
 obtain ⟨d,hd,ed⟩:=scale a k j
 obtain ⟨c,hc,ec⟩:=scale b j k
 rw [mi] at hc
 rw [hd,hc,vQ,vQ,ed,ec,mo j k]
 have hp:0 < 2 ^ max k j:=uT _
 generalize 2 ^ max k j=p at *
 congr 1
 rcases Nat.lt_trichotomy a b with hlt | rfl | hgt
 ·rw [lT.2 hlt]
  refine bU.2 ?_
  have:=bD hlt hp
  omega
 ·rw [lU.2 rfl]
  exact bB.2 rfl
 ·rw [Nat.compare_eq_gt.2 hgt]
  refine bV.2 ?_
  have:=bD hgt hp
  omega
theorem Jw (neg:Bool) (n d:Nat):Toward.zero.cut neg n d=n / 2 ^ d:=by
 unfold Toward.cut
 simp only [Bool.toNat_false,Nat.add_zero,bF,dO]
 by_cases h:d≤n.log2+2
 ·rw [cz h]
 ·rw [Nat.min_eq_right (by omega)]
  have h1:n < 2 ^ (n.log2+2):=bI dW (lu (by decide) (by omega))
  have h2:n < 2 ^ d:=bI h1 (lu (by decide) (by omega))
  rw [fO h1,fO h2]
theorem ziH (a:Nat) (ha:a < 2 ^ 53):floatToIntVal .f64 (fl a) .i64=some (a:Int):=by
 obtain ⟨k,hk⟩:=ZK a ha
 unfold floatToIntVal
 show (match (double.read (fl a)).toInt .zero with | some n=>_ | none=>_)=_
 rw [hk]
 have e:(Datum.number false (a*2 ^ k) (-(k:Int))).toInt .zero=some (a:Int):=by
  unfold Datum.toInt Datum.integral
  simp only
  rw [show (-(k:Int)).toNat=0 by omega,show (-(-(k:Int))).toNat=k by omega,bF,dM,dN,Jw,lI _ (uT k),vQ]
  simp
 rw [e]
 simp only
 rw [if_pos]
 constructor
 ·show (-9223372036854775808:Int)≤a
  omega
 ·show (a:Int)≤9223372036854775807
  have:(2:Nat) ^ 53=9007199254740992:=by decide
  omega
theorem W9 (x:Nat) (s:Bool) (m:Nat) (e:Int) (hx:double.read x=.number s m e) :
  ∃ (V:Int) (D:Nat),0 < D∧(∀ j,j < 2 ^ 53→double.order x (fl j)=some (compare V ((j*D:Nat):Int))∧double.order (fl j) x=some (compare ((j*D:Nat):Int) V)) ∧
   (0≤V→(double.read x).toInt .zero=some (V / (D:Int))):=by
 by_cases he:0≤e
 ·obtain ⟨q,rfl⟩:=gN he
  refine ⟨signed s m q,1,by decide,?_,?_⟩
  ·intro j hj
   obtain ⟨k,hk⟩:=ZK j hj
   have hp:0 < 2 ^ k:=uT k
   have e0:min ((q:Nat):Int) (-(k:Int))=-(k:Int):=by omega
   have e0':min (-(k:Int)) ((q:Nat):Int)=-(k:Int):=by omega
   have e1:(((q:Nat):Int) - -(k:Int)).toNat=q+k:=by omega
   have e2:(-(k:Int) - -(k:Int)).toNat=0:=by omega
   have e3:signed s m (q+k)=signed s m q*((2 ^ k:Nat):Int):=by
    unfold signed
    rw [Nat.shiftLeft_add,bF (m <<< q) k]
    cases s <;> simp [mI]
   have hc:∀ a b:Int,compare (a*((2 ^ k:Nat):Int)) (b*((2 ^ k:Nat):Int))=compare a b:=by
    intro a b
    have hp':(0:Int) < ((2 ^ k:Nat):Int):=by omega
    generalize ((2 ^ k:Nat):Int)=p at *
    rcases lV a b with h | rfl | h
    ·rw [bU.2 h];exact bU.2 (bR h hp')
    ·exact (bB.2 rfl).trans (bB.2 rfl).symm
    ·rw [bV.2 h];exact bV.2 (bR h hp')
   unfold Format.order
   rw [hx,hk]
   simp only [Datum.order]
   rw [e0,e0',e1,e2,vQ,e3,dM,dN,dN,fZ,hc,hc]
   exact ⟨rfl,rfl⟩
  ·intro hV
   rw [hx]
   unfold Datum.toInt Datum.integral
   simp only
   rw [show (((q:Nat):Int)).toNat=q by omega,show (-((q:Nat):Int)).toNat=0 by omega,Jw,dM,Nat.div_one]
   have:signed s (m <<< q) 0=signed s m q:=by unfold signed;simp
   rw [this];simp
 ·obtain ⟨q,hq⟩:=gN (show 0≤-e by omega)
  obtain rfl:e=-(q:Int):=by omega
  refine ⟨signed s m 0,2 ^ q,uT q,?_,?_⟩
  ·intro j hj
   obtain ⟨k,hk⟩:=ZK j hj
   have e0:min (-(q:Int)) (-(k:Int))=-((max q k:Nat):Int):=by omega
   have e0':min (-(k:Int)) (-(q:Int))=-((max q k:Nat):Int):=by omega
   have e1:(-(q:Int) - -((max q k:Nat):Int)).toNat=max q k - q:=by omega
   have e2:(-(k:Int) - -((max q k:Nat):Int)).toNat=max q k - k:=by omega
   have e3:signed s m (max q k - q)=signed s m 0*((2 ^ (max q k - q):Nat):Int):=by
    unfold signed
    rw [bF]
    cases s <;> simp [mI]
   have e4:j*2 ^ k*2 ^ (max q k - k)=(j*2 ^ q)*2 ^ (max q k - q):=by
    rw [dR,dR,← bA,← bA]
    congr 2;omega
   have hp:0 < 2 ^ (max q k - q):=uT _
   have hc:∀ a b:Int,compare (a*((2 ^ (max q k - q):Nat):Int)) (b*((2 ^ (max q k - q):Nat):Int))=compare a b:=by
    intro a b
    have hp':(0:Int) < ((2 ^ (max q k - q):Nat):Int):=by omega
    generalize ((2 ^ (max q k - q):Nat):Int)=p at *
    rcases lV a b with h | rfl | h
    ·rw [bU.2 h];exact bU.2 (bR h hp')
    ·exact (bB.2 rfl).trans (bB.2 rfl).symm
    ·rw [bV.2 h];exact bV.2 (bR h hp')
   unfold Format.order
   rw [hx,hk]
   simp only [Datum.order]
   rw [e0,e0',e1,e2,vQ,e3,e4,fZ (j*2 ^ q),hc,hc]
   exact ⟨rfl,rfl⟩
  ·intro hV
   rw [hx]
   unfold Datum.toInt Datum.integral
   simp only
   rw [show (-(q:Int)).toNat=0 by omega,show (-(-(q:Int))).toNat=q by omega,Jw,bF,dM,dN]
   cases s with
   | false=>simp [signed]
   | true =>
    have:m=0:=by
     unfold signed at hV
     simp at hV
     omega
    subst this
    simp [signed]
def zqt (x most:Nat):Option Nat:=(uf (most+1)).find? fun i=>double.order (fl i) x==some .eq
theorem Zo (x most i:Nat) (hm:most < 2 ^ 53) (h:zqt x most=some i) :
  i≤most∧(double.order x 0==some .gt || double.order x 0==some .eq)=true∧(double.order x (fl most)==some .lt || double.order x (fl most)==some .eq)=true ∧
   floatToIntVal .f64 x .i64=some (i:Int)∧(double.order (fl i) x==some .eq)=true:=by
 have h1:=List.find?_some h
 have h2:=List.mem_of_find?_eq_some h
 simp only [bW] at h2
 have hi:i < 2 ^ 53:=by omega
 refine ⟨by omega,?_⟩
 have h1':double.order (fl i) x=some .eq:=by simpa using h1
 cases hx:double.read x with
 | nan n t =>
  obtain ⟨k,hk⟩:=ZK i hi
  unfold Format.order at h1'
  rw [hx,hk] at h1'
  simp [Datum.order] at h1'
 | infinity n =>
  obtain ⟨k,hk⟩:=ZK i hi
  unfold Format.order at h1'
  rw [hx,hk] at h1'
  cases n <;> simp [Datum.order] at h1'
 | number s m e =>
  obtain ⟨V,D,hD,ho,ht⟩:=W9 x s m e hx
  rw [(ho i hi).2] at h1'
  have hV:((i*D:Nat):Int)=V:=by
   have:compare ((i*D:Nat):Int) V=.eq:=by simpa using h1'
   exact bB.1 this
  subst hV
  have h0:=(ho 0 (by decide)).1
  rw [Qc,dQ] at h0
  have hM:=(ho most hm).1
  have hle:i*D≤most*D:=uP _ (by omega)
  refine ⟨?_,?_,?_,h1⟩
  ·rw [h0]
   rcases Nat.eq_zero_or_pos (i*D) with hz | hz
   ·rw [hz,bB.2 rfl];rfl
   ·rw [bV.2 (by omega)];rfl
  ·rw [hM]
   rcases Nat.lt_or_eq_of_le hle with hz | hz
   ·rw [bU.2 (by omega)];rfl
   ·rw [hz,bB.2 rfl];rfl
  ·have hti:=ht (by omega)
   have e:((i*D:Nat):Int) / (D:Int)=(i:Int):=by
    rw [fZ];exact Int.mul_ediv_cancel _ (by omega)
   rw [e] at hti
   unfold floatToIntVal
   show (match (double.read x).toInt .zero with | some n=>_ | none=>_)=_
   rw [hti]
   simp only
   rw [if_pos]
   constructor
   ·show (-9223372036854775808:Int)≤i
    omega
   ·show (i:Int)≤9223372036854775807
    have:(2:Nat) ^ 53=9007199254740992:=by decide
    omega
theorem Jy (n most:Nat) (hm:most < 2 ^ 53):zqt (fl n) most=if n≤most then some n else zqt (fl n) most:=by
 by_cases h:n≤most
 ·rw [if_pos h]
  unfold zqt
  rw [List.find?_range_eq_some]
  refine ⟨by rw [zb6 n n (by omega) (by omega),lU.2 rfl];rfl,bW.2 (by omega),?_⟩
  intro j hj
  rw [zb6 j n (by omega) (by omega),lT.2 hj]
  rfl
 ·rw [if_neg h]
def wC (re im many:Nat):Option (Nat×Nat) :=
 match zqt re many with
 | none=>none
 | some a =>
  match zqt im many with
  | none=>none
  | some n=>if a+n≤many then some (a,n) else none
theorem XA {re im many a n:Nat} (h:wC re im many=some (a,n)):zqt re many=some a∧zqt im many=some n∧a+n≤many:=by
 unfold wC at h
 split at h
 ·cases h
 ·split at h
  ·cases h
  ·split at h
   ·cases h;exact ⟨by assumption,by assumption,by assumption⟩
   ·cases h
theorem jR (a n many:Nat) (hm:many < 2 ^ 53) (h:a+n≤many):wC (fl a) (fl n) many=some (a,n):=by
 unfold wC
 rw [Jy a many hm,Jy n many hm,if_pos (by omega),if_pos (by omega)]
 simp [h]
end Go.Fl
namespace Go.Proofs.YtamdifhibogdiaaGreatDoor
open RowKit Fl
theorem zb7 (x many i:Nat) (b:Nat) (w:World) (hm:many < 2 ^ 53) (hc:w.cell? ⟨b,0,none⟩=some (.int .i64 many)) (h:zqt x many=some i) :
  Calls Tryz.prog 277 #[.float .f64 x,.pointer (some ⟨b,0,none⟩)] w fun e w'=>e=.returned (.bool true)∧w=w':=by
 obtain ⟨h1,h2,h3,h4,h5⟩:=Zo x many i hm h
 have hr:=fun (w:World)=>run_convert_float_int (P:=Tryz.prog) w 206 3 .f64 .i64 x i (by rw [Tryz.underlying206];rfl) Tryz.underlying3 h4
 have h2':(FloatKind.f64.format.order x 0==some Ordering.gt || FloatKind.f64.format.order x 0==some Ordering.eq)=true:=h2
 have h3':(FloatKind.f64.format.order x (floatOfInt FloatKind.f64 ↑many)==some Ordering.lt || FloatKind.f64.format.order x (floatOfInt FloatKind.f64 ↑many)==some Ordering.eq)=true:=h3
 have h5':(FloatKind.f64.format.order (floatOfInt FloatKind.f64 ↑i) x==some Ordering.eq)=true:=h5
 clear h2 h3 h5 h4 h1 h hm
 go_enter Tryz.func277,Tryz.ntmps277
 go_wp2
 go_ret
 exact ⟨rfl,rfl⟩
theorem zb8 (re im many a n:Nat) (w:World) (hm:many < 2 ^ 53) (hcut:wC re im many=some (a,n)) :
  Calls Tryz.prog 272 #[.complex .f64 re im,.int .i64 many] w fun e w'=>e=.returned (.tuple #[.int .i64 a,.int .i64 n,.bool true])∧w'=w.alloc (.cells #[.int .i64 many] 3):=by
 obtain ⟨h1,h2,h⟩:=XA hcut
 have k1:=(Zo re many a hm h1).2.2.2.1
 have k2:=(Zo im many n hm h2).2.2.2.1
 have l1:=(Zo re many a hm h1).1
 have l2:=(Zo im many n hm h2).1
 have hr:=fun (w:World)=>run_convert_float_int (P:=Tryz.prog) w 206 3 .f64 .i64 re a (by rw [Tryz.underlying206];rfl) Tryz.underlying3 k1
 have hi:=fun (w:World)=>run_convert_float_int (P:=Tryz.prog) w 206 3 .f64 .i64 im n (by rw [Tryz.underlying206];rfl) Tryz.underlying3 k2
 have hm':(many:Int)≤9007199254740992:=by
  have:(2:Nat) ^ 53=9007199254740992:=by decide
  omega
 have HM:=znq hm
 have H1:=znq h1
 have H2:=znq h2
 clear k1 k2 h1 h2 hm hcut
 go_enter Tryz.func272,Tryz.ntmps272
 go_wp2_with fail
 refine (zb7 re many a _ _ HM.znr (by simp) H1.znr).mono ?_
 rintro e w' ⟨rfl,rfl⟩
 go_wp2_with fail
 refine (zb7 im many n _ _ HM.znr (by simp) H2.znr).mono ?_
 rintro e w' ⟨rfl,rfl⟩
 go_wp2_with fail
 go_ret3
 exact ⟨rfl,rfl⟩
end Go.Proofs.YtamdifhibogdiaaGreatDoor
namespace Go.Proofs.YtamdifhibogdiaaGreatDoor
open RowKit Fl Mem
theorem YR (ao:Option Addr) (len cap:Nat) (xs:List Value) (w:World) (hlen:xs.length=len) (hb:len≤1099511627776) (hl:zr w ao xs) (h1:∀ u∈xs,u.oneCell'=true) :
  Calls Tryz.prog 64 #[.slice ao len cap] w (KS w 5 1 len xs id):=by
 obtain ⟨i0,hi,hz0,hz1,hz2⟩:=info_parts yq
 have hq:=fun (w:World)=>Vp (P:=Tryz.prog) w 22 5 ao len cap Tryz.underlying22
 cases ao with
 | none =>
  have hx:xs=[]:=by
   cases xs with
   | nil=>rfl
   | cons x xs=>obtain ⟨_,_,e,_⟩:=hl 0 x rfl;cases e
  subst hx
  obtain rfl:len=0:=by simpa using hlen.symm
  clear h1 hl hlen hi hz0 hz1 hz2
  go_enter Tryz.func64,Tryz.ntmps64
  go_wp2
  go_ret
  exact ⟨_,rfl,World.ownsRow_nil _ _ _ _,Below.refl _ _⟩
 | some ad =>
  have hown:=World.ownsRow_made (size:=1) (e:=5) (base:=w.heap.size) w #[] 0 (xc _) (by simp [maxLen]) (by simp)
  have hl2:=(hl.below ((Below.refl w.heap.size w).alloc (xc _) (.cells #[] 5))).news
  have HL:=znq hl2
  have H1:=znq h1
  have HLEN:=znq hlen
  clear h1 hl hl2 hlen
  go_enter Tryz.func64,Tryz.ntmps64
  go_wp2_with (first | (at_builtin;refine wpList_append_own _ rfl _ _ 22 rfl w.heap.size 5 i0 (.int .u8 0) 1 1 Tryz.underlying22 hi hz0 hz1 hz2 rfl (by decide) _ _ _ rfl hown ad len cap xs rfl ?c1 HL.znr H1.znr ?c3 ?c4 ?c5 ?_))
  case c1=>rw [HLEN.znr];omega
  case c3=>simp [maxLen];omega
  case c4=>omega
  case c5=>simp
  intro v' w1 hown' hgrow _
  go_wp2
  go_ret
  refine ⟨v',rfl,?_,?_⟩
  ·simpa using hown'
  ·exact ((Below.refl w.heap.size w).alloc (xc _) _).grown hgrow (by simp) (by intro k hk;simp [Value.ownBlock] at hk;omega)
theorem zb9 (ao:Option Addr) (len cap:Nat) (bs:List UInt8) (re im a n:Nat) (w:World) (hlen:bs.length=len) (hcap:len≤cap) (hb:len≤1099511627776) (hl:zr w ao (bs.map B)) (hcut:wC re im len=some (a,n)) :
  Calls Tryz.prog 273 #[.slice ao len cap,.complex .f64 re im] w (KS w 5 1 n (((bs.drop a).take n).map B) fun v=>.tuple #[v,.bool true]):=by
 obtain ⟨_,_,han⟩:=XA hcut
 obtain ⟨i0,hi,hz0,hz1,hz2⟩:=info_parts yq
 have zfU:(((bs.drop a).take n).map B).length=n:=by simp;omega
 have hs:=fun (w:World)=>zlu (P:=Tryz.prog) w 22 5 Tryz.underlying22 (ziy _ i0 1 hi hz1) ao len cap a (a+n) (a:Int) ((a:Int)+n) rfl (by omega) (by omega) (by omega)
 rw [show a+n - a=n by omega] at hs
 have HC:=znq hcut
 have HLEN:=znq zfU
 have HL:=znq ((zr.cutA (cap:=cap) (hl.below ((Below.refl w.heap.size w).alloc (xc _) (.cells #[.int .i64 len] 3))) (by simp;omega) a n))
 rw [← List.map_drop,← List.map_take] at HL
 have H1:=znq (zg ((bs.drop a).take n))
 clear zfU hlen hl hcut hi hz0 hz1 hz2
 go_enter Tryz.func273,Tryz.ntmps273
 go_wp2_with fail
 refine (zb8 re im len a n _ (by omega) HC.znr).mono ?_
 rintro e w' ⟨rfl,rfl⟩
 go_wp2_with fail
 refine (YR _ n _ _ _ HLEN.znr (by omega) HL.znr H1.znr).mono ?_
 rintro e w' ⟨v,rfl,hown,hbel⟩
 go_wp2_with fail
 go_ret2
 exact ⟨v,rfl,hown.mono (by simp),((Below.refl w.heap.size w).alloc (xc _) _).trans (hbel.mono (by simp))⟩
end Go.Proofs.YtamdifhibogdiaaGreatDoor
namespace Go.Proofs.YtamdifhibogdiaaGreatDoor
open RowKit Fl Mem Ops ru
theorem zfz (n:Nat):(madeCells #[.int .u8 0] n).toList=(List.replicate n (0:UInt8)).map B:=by
 rw [toList_madeCells_one,List.map_replicate]
 rfl
theorem QQ (ao:Option Addr) (len cap:Nat) (bs:List UInt8) (re im a n:Nat) (w:World) (hlen:bs.length=len) (hb:len≤1099511627776) (hl:zr w ao (bs.map B)) (hcut:wC re im (2*len)=some (a,n)) :
  Calls Tryz.prog 260 #[.slice ao len cap,.complex .f64 re im] w (KS w 5 1 n ((((jm bs).drop a).take n).map B) fun v=>.tuple #[v,.bool true]):=by
 obtain ⟨_,_,han⟩:=XA hcut
 obtain ⟨i0,hi,hz0,hz1,hz2⟩:=info_parts yq
 have HC:=znq hcut
 have HLEN:=znq hlen
 have HL:=znq hl
 have HI:=znq (And.intro hi (And.intro hz0 (And.intro hz1 hz2)))
 clear hlen hl hcut hi hz0 hz1 hz2
 go_enter Tryz.func260,Tryz.ntmps260
 go_wp2_with fail
 refine (zb8 re im (2*len) a n _ (by omega) HC.znr).mono ?_
 rintro e w' ⟨rfl,rfl⟩
 go_wp2_with (at_make;refine wpList_make_full _ rfl _ _ 22 rfl w.heap.size 5 i0 (.int .u8 0) 1 Tryz.underlying22 HI.znr.1 HI.znr.2.1 HI.znr.2.2.1 _ _ _ _ n rfl rfl rfl rfl ?b2 ?b3 ?b4 ?_)
 case b2=>rw [HI.znr.2.2.2];omega
 case b3=>unfold maxLen;omega
 case b4=>simp
 intro w0 hown0 zaA
 have hb0:Below w.heap.size w w0:=((Below.refl w.heap.size w).alloc (xc _) _).grown zaA (by simp) (fun k h=>by cases h)
 have HOWN:=znq hown0
 have HB:=znq hb0
 clear hown0 zaA hb0
 go_wp2
 generalize hg:w.heap.size+1=g at *
 have HG:=znq hg
 clear hg
 go_loopw [27] (fun i wr=>∃ k:Nat,k≤n∧i=.int .i64 k∧wr.ownsRow w.heap.size 5 1 (.slice (some ⟨g,0,none⟩) n n) n ((j3 (((jm bs).drop a).take n) n k).map B)∧Below w.heap.size w wr)
  (fun i _=>n - (intOf i).toNat)
 case atStart =>
  refine ⟨0,gX _,rfl,?_,HB.znr⟩
  have:=HOWN.znr
  rw [zfz] at this
  rw [zgw]
  simpa using this
 case round =>
  obtain ⟨k,hk,rfl,hown,hbel⟩:=hrel
  have zdT:(((jm bs).drop a).take n).length=n:=by rw [Ku,List.length_drop,jN,HLEN.znr];omega
  by_cases hlt:k < n
  ·have hread:=(HL.znr.below HB.znr)
   have hne:bs.map B≠[]:=by intro h;have:=congrArg fq h;simp [HLEN.znr] at this;omega
   obtain ⟨b,off,rfl,hbw,hcell⟩:=HL.znr.at hne
   have hbs:(bs.map B)[(a+k) / 2]? = some (B (bs.getD ((a+k) / 2) 0)):=by
    have:(a+k) / 2 < bs.length:=by rw [HLEN.znr];omega
    simp [this]
   have hc:=(hbel.cell (p:=⟨b,off+(a+k) / 2,none⟩) hbw).trans (hcell _ _ hbs)
   have hf:=hown.frozenAt k
   have hcl:wr.cell? ⟨g,k,none⟩=some (B (((j3 (((jm bs).drop a).take n) n k)).getD k 0)):=by
    rw [hown.cellAt k (by omega)]
    have:k < (j3 (((jm bs).drop a).take n) n k).length:=by rw [zbq _ _ _ zdT (by omega)];omega
    simp [this]
   clear hread hne hcell hbs
   go_wp2
   go_roundw
   case rel =>
    refine ⟨k+1,by omega,by go_num,?_,hbel.setCell (by simp;have:=HG.znr;omega) _⟩
    have hnx:=zl9 bs (a+k) (by rw [HLEN.znr];omega)
    have hset:=zjn (((jm bs).drop a).take n) n k _ zdT (by rw [List.getElem?_take,if_pos hlt,List.getElem?_drop];exact hnx)
    have hst:=(hown.stored k (B (nib (bs.getD ((a+k) / 2) 0) ((a+k) % 2)))).1
    rw [← gu,hset] at hst
    simpa [nib] using hst
   case measure=>simp [intOf];omega
  ·obtain rfl:k=n:=by omega
   rw [zgx _ _ zdT] at hown
   go_wp2
   go_ret2
   exact ⟨_,rfl,hown,hbel⟩
theorem zaa (ao:Option Addr) (len cap:Nat) (h:List UInt8) (w:World) (hlen:h.length=len) (hb:len≤1099511627776) (hl:zr w ao (h.map B)) :
  Calls Tryz.prog 237 #[.slice ao len cap] w (KS w 5 1 ((len+1) / 2) ((kf h).map B) id):=by
 obtain ⟨i0,hi,hz0,hz1,hz2⟩:=info_parts yq
 have HLEN:=znq hlen
 have HL:=znq hl
 have HI:=znq (And.intro hi (And.intro hz0 (And.intro hz1 hz2)))
 clear hlen hl hi hz0 hz1 hz2
 go_enter Tryz.func237,Tryz.ntmps237
 go_wp2_with (at_make;refine wpList_make_full _ rfl _ _ 22 rfl w.heap.size 5 i0 (.int .u8 0) 1 Tryz.underlying22 HI.znr.1 HI.znr.2.1 HI.znr.2.2.1 _ _ _ _ ((len+1) / 2) rfl rfl (by omega) (by omega) ?b2 ?b3 ?b4 ?_)
 case b2=>rw [HI.znr.2.2.2];omega
 case b3=>unfold maxLen;omega
 case b4=>simp
 intro w0 hown0 zaA
 have hb0:Below w.heap.size w w0:=(Below.refl w.heap.size w).grown zaA (by simp) (fun k h=>by cases h)
 have HOWN:=znq hown0
 have HB:=znq hb0
 clear hown0 zaA hb0
 go_wp2
 generalize hg:w.heap.size=g at *
 have HG:=znq hg
 clear hg
 generalize hm:(len+1) / 2=m at *
 have HM:=znq hm
 clear hm
 go_loopw [13] (fun i wr=>∃ k:Nat,k≤len∧i=.int .i64 k∧wr.ownsRow g 5 1 (.slice (some ⟨g,0,none⟩) m m) m ((qw h k).map B)∧Below g w wr)
  (fun i _=>len - (intOf i).toNat)
 case atStart =>
  refine ⟨0,gX _,rfl,?_,HB.znr⟩
  have:=HOWN.znr
  rw [zbr,HLEN.znr,HM.znr,← zfz]
  simpa using this
 case round =>
  obtain ⟨k,hk,rfl,hown,hbel⟩:=hrel
  by_cases hlt:k < len
  ·have hne:h.map B≠[]:=by intro h;have:=congrArg fq h;simp [HLEN.znr] at this;omega
   obtain ⟨b,off,rfl,hbw,hcell⟩:=HL.znr.at hne
   rw [HG.znr] at hbw
   have hks:k < h.length:=by rw [HLEN.znr];omega
   obtain ⟨u,hu⟩:∃ u,h[k]? = some u:=⟨h[k],by simp [hks]⟩
   have hc:=(hbel.cell (p:=⟨b,off+k,none⟩) hbw).trans (hcell k (B u) (by simp [hu]))
   have hf:=hown.frozenAt (k / 2)
   have hcl:wr.cell? ⟨g,k / 2,none⟩=some (B ((qw h k).getD (k / 2) 0)):=by
    have hm:=HM.znr
    rw [hown.cellAt _ (by omega)]
    have:k / 2 < (qw h k).length:=by rw [Vu _ _ (by omega),HLEN.znr];omega
    simp [this]
   have HU:=znq hu
   have hmk:k / 2 < m:=by have:=HM.znr;omega
   clear hne hcell hu hks
   go_wp2
   go_region
   all_goals
    go_wp2
    go_roundw
    case rel =>
     refine ⟨k+1,by omega,by go_num,?_,(hbel.setCell (by simp) _).drew⟩
     have hset:=zef h k u HU.znr
     have hst:=(hown.stored (k / 2) (B (or8 ((qw h k).getD (k / 2) 0) (half u (k % 2))))).1.drew
     rw [← gu,hset] at hst
     simpa [half] using hst
    case measure=>simp [intOf];omega
  ·obtain rfl:k=len:=by omega
   rw [← HLEN.znr,zbs] at hown
   have hg:=HG.znr
   clear HG
   subst hg
   go_wp2
   go_ret
   exact ⟨.slice (some ⟨w.heap.size,0,none⟩) m m,rfl,hown,hbel⟩
end Go.Proofs.YtamdifhibogdiaaGreatDoor

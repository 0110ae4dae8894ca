/-
  Texts of this claim, one behind the other.
-/
import Derived.Test.YtjaioajjfiaheaaGreatDoorR1
import Derived.Test.YtjaioajjfiaheaaGreatDoorR25
import Derived.Lib.Hide
set_option linter.unusedVariables false
set_option linter.unusedSimpArgs false
set_option maxHeartbeats 16000000
set_option maxRecDepth 100000
namespace Go.Proofs.YtjaioajjfiaheaaGreatDoor
open Go.RowKit Go.Mem Go.Ops Go.Cells Go.Oct Go.Gf Go.Trn Go.Aes Go.Ring Go.Ezk Go.Ezh Go.Ezt Go.Ezc Go.Aez Go.Blake Go.CutP Go.Fl Go.Adi Go.Hct Go.Wid
attribute [local irreducible] zE zN zO zM yu
def zoc (F1 F2 p1 p2:Nat) (nn:Value):List Value:=[.func (.func F1) #[] #[.pointer (some ⟨p1,0,none⟩),.pointer (some ⟨p2,0,none⟩)],.func (.func F2) #[] #[.pointer (some ⟨p1,0,none⟩),.pointer (some ⟨p2,0,none⟩)],nn]
theorem zod {F1 F2 p1 p2:Nat} {nn:Value} (h:nn.oneCell'=true):∀ v∈zoc F1 F2 p1 p2 nn,v.oneCell'=true:=by
 intro v hv
 simp only [zoc,List.mem_cons,List.not_mem_nil,or_false] at hv
 rcases hv with rfl | rfl | rfl
 ·rfl
 ·rfl
 ·exact h
theorem zn5 (w:World):(binOp .neq 128 .nilFunc .nilFunc).run Tryz.prog w=.ok (.bool false) w:=by kernel_rfl
theorem enters {F:Nat} {fn:Func} {c:Code} (hf:Tryz.prog.funcs[F]? = some fn) (hn:(fn.name=="runtime.NumGoroutine")=false) (hb:fn.body=some c) (args:Array Value) (w:World):(callFunc F args).run Tryz.prog w=.ok (.enter F args) w:=by
 have h1:fn.name≠"runtime.NumGoroutine":=by simpa using hn
 simp [callFunc,hf,h1,hb]
theorem zch (cv nv av mv:Value) (t c:Int) (w:World) (hc:c≠0) (hb:Calls Tryz.prog 82 #[cv,.int .i64 t,nv,av] w fun e w'=>e=.returned (.tuple #[.agg #[.nilFunc,.nilFunc,.nilFunc],.int .i64 c])∧Below w.heap.size w w') :
  Calls Tryz.prog 54 #[cv,.int .i64 t,nv,av,mv] w fun e w'=>e=.returned (.tuple #[.slice none 0 0,.int .i64 c])∧Below w.heap.size w w':=by
 have HB:=znq hb
 have HS:=znq (St.start w)
 have d0:(c != 0)=true:=by simp;omega
 clear hb hc
 go_enter Tryz.func54,Tryz.ntmps54
 go_wp2_with fail
 refine HB.znr.mono ?_
 rintro e w1 ⟨rfl,hbel⟩
 have HS:=znq (HS.znr.later hbel)
 have hz1:=HS.znr.size
 clear hbel
 go_wp2_with (refine ze 130 [.nilFunc,.nilFunc,.nilFunc] _ rfl rfl znw rfl ?_)
 intro w2 hb hbel;have HS:=znq (HS.znr.push hb hbel);clear hb hbel
 go_wp2_with (refine (HS.znr.get 0 rfl).wstore rfl rfl rfl (cs:=[.nilFunc,.nilFunc,.nilFunc]) rfl k7 rfl rfl (by simp [Value.oneCell']) ?_)
 intro w3 hb3 ho3
 have HBE:=znq (zk HS.znr.bel ho3 hz1)
 clear hb3 ho3
 go_wp2
 go_ret2
 exact ⟨rfl,HBE.znr⟩
theorem zov (cv nv av:Value) (t:Nat) (bo:Option Addr) (mn mc:Nat) (m:List UInt8) (F1 F2:Nat) (R:World→Value→Int→World→Prop) (w:World) (ht:t≤16) (hm:m.length=mn) (hmm:mn≤15000) (hmc:mn≤mc) (hlm:zr w bo (m.map B)) (hF:∀ args w,(callFunc F1 args).run Tryz.prog w=.ok (.enter F1 args) w)
  (hb:Calls Tryz.prog 82 #[cv,.int .i64 t,nv,av] w fun e w'=>∃ p1 p2 nn,e=.returned (.tuple #[.agg (zoc F1 F2 p1 p2 nn).toArray,.int .i64 0])∧(mn=0→nn=.nilFunc)∧nn.oneCell'=true ∧
   (∀ w'' bo' cb',Below w'.heap.size w' w''→mn+t≤cb'→zr w'' bo' ((m++zf t).map B)→Calls Tryz.prog F1 #[.slice bo' (mn+t) cb',.pointer (some ⟨p1,0,none⟩),.pointer (some ⟨p2,0,none⟩)] w'' fun e w3=>∃ v c,e=.returned (.tuple #[v,.int .i64 c])∧R w'' v c w3∧Below w''.heap.size w'' w3)∧Below w.heap.size w w') :
  Calls Tryz.prog 54 #[cv,.int .i64 t,nv,av,.slice bo mn mc] w fun e w'=>∃ w'' v c,e=.returned (.tuple #[v,.int .i64 c])∧R w'' v c w'∧Below w.heap.size w w''∧Below w.heap.size w w':=by
 have HBI:=znq hb
 have HM:=znq hm
 have HLM:=znq hlm
 have HS:=znq (St.start w)
 clear hb hm hlm
 go_enter Tryz.func54,Tryz.ntmps54
 generalize hbb:w.heap.size=bb at *
 have HBB:=znq hbb
 clear hbb
 go_wp2_with fail
 refine HBI.znr.mono ?_
 rintro e w1 ⟨p1,p2,nn,rfl,hnn,hone,hway,hbel⟩
 have HWAY:=znq hway
 have HONE:=znq hone
 have HNN:=znq hnn
 have HS:=znq (HS.znr.later (by rw [HBB.znr];exact hbel))
 have hz1:=HS.znr.size
 clear hway hbel hone hnn HBI
 go_wp2_with (refine ze 130 [.nilFunc,.nilFunc,.nilFunc] _ rfl rfl znw rfl ?_)
 intro w2 hb hbel;have HS:=znq (HS.znr.push hb hbel);have HB2:=znq hbel;have hlt2:=hb.lt;clear hb hbel
 go_wp2_with (refine (HS.znr.get 0 rfl).wstore rfl rfl rfl (cs:=zoc F1 F2 p1 p2 nn) rfl k7 rfl rfl (zod HONE.znr) ?_)
 intro w3 hb3 ho3
 have HW3:=znq (zk HB2.znr ho3 (Nat.le_refl _))
 have HS:=znq (HS.znr.change 0 hb3 ho3 (by omega) (by simp))
 clear hb3 ho3 HB2
 have hz3:=HW3.znr.size
 obtain ⟨b1,hb1⟩:∃ b1,b1=w1.heap.size:=⟨_,rfl⟩
 rw [← hb1] at HS
 have HB1:=znq hb1
 have hc2:=(HS.znr.get 0 rfl).cell 2 _ rfl
 have hcf:=fun (y:zG w3.drew)=>((HS.znr.drew.later y.later).get 0 rfl).cell 0 _ rfl
 by_cases h0:mn=0
 ·have hn:=HNN.znr h0
  subst hn
  have d0:((mn:Int)==0)=true:=by simp;omega
  rw [← hb1]
  clear h0 hb1 HNN HONE
  have hq:=zn5
  go_wp2_with fail
  refine zn [0,1,2,3,4,5,6,7,8,9,10,11] (by kernel_rfl) (by kernel_rfl) ?_
  clear d0 hc2 hq
  rintro w4 rfl
  iterate 4 refine m1R ?_
  clear hcf
  have HS:=znq HS.znr.drew
  have HW3:=znq (HW3.znr.drew)
  have HLM:=znq (HLM.znr.below (HS.znr.old HBB.znr))
  refine zi rfl rfl (by rfl) (fun K hK=>?_)
  refine zpb 22 5 (.int .u8 0) 1 t rfl rfl rfl Tryz.underlying22 yq rfl rfl rfl (by omega) (by unfold maxLen;omega) (fun w5 hb5 hbel5=>?_)
  rw [repB] at hb5
  refine hK _ _ hbel5 ?_
  have HS:=znq (HS.znr.later hbel5)
  have HW3:=znq (HW3.znr.trans (hbel5.mono hz3))
  have HLM:=znq (HLM.znr.below hbel5)
  have HL5:=znq (show zr w5 (some ⟨w3.heap.size,0,none⟩) _ from hb5.lies)
  have hz5:=HW3.znr.size
  clear hK K hb5 hbel5
  go_simp
  generalize w3.heap.size=b5 at *
  refine zi rfl rfl (by rfl) (fun K hK=>?_)
  go_simp
  refine hK _ _ (zD _ _) ?_
  clear hK K
  have HST:=znq (show xY (w5.alloc (.cells #[.slice bo mn mc,.slice (some ⟨b5,0,none⟩) t t] 22)) (some ⟨w5.heap.size,0,none⟩) [⟨bo,mc,m⟩,⟨some ⟨b5,0,none⟩,t,zf t⟩] from ⟨by
   have:=(Blk.new w5 [.slice bo mn mc,.slice (some ⟨b5,0,none⟩) t t] 22).lies
   simpa [Str.val,HM.znr,zd] using this,by
   intro s hs
   simp at hs
   rcases hs with rfl | rfl
   ·exact ⟨by rw [HM.znr];exact hmc,HLM.znr.below (zD _ _)⟩
   ·exact ⟨by simp [zd],HL5.znr.below (zD _ _)⟩⟩)
  have HCAT:=znq (show q4 [⟨bo,mc,m⟩,⟨some ⟨b5,0,none⟩,t,zf t⟩]=m++zf t from by simp [q4])
  have HS:=znq (HS.znr.later (zD w5 (.cells #[.slice bo mn mc,.slice (some ⟨b5,0,none⟩) t t] 22)))
  have HW3:=znq (HW3.znr.trans ((zD w5 (.cells #[.slice bo mn mc,.slice (some ⟨b5,0,none⟩) t t] 22)).mono hz5))
  obtain ⟨w6,hw6⟩:∃ w6,w6=w5.alloc (.cells #[.slice bo mn mc,.slice (some ⟨b5,0,none⟩) t t] 22):=⟨_,rfl⟩
  rw [← hw6] at HST HS HW3
  rw [← hw6]
  have hz6:=HW3.znr.size
  clear hw6 HL5 HLM
  refine zi rfl rfl (by rfl) (fun K hK=>?_)
  go_simp
  refine (YU _ 2 2 _ _ rfl (by omega) HST.znr (by rw [HCAT.znr,List.length_append,HM.znr,zd];omega)).mono ?_
  rintro e w7 ⟨v7,rfl,hown7,hbel7⟩
  rw [HCAT.znr] at hown7
  have hlen7:(m++zf t).length=mn+t:=by rw [List.length_append,HM.znr,zd]
  rw [hlen7] at hown7
  obtain ⟨ao7,cap7,rfl,hc7,_,hl7⟩:=zw hown7
  have HL7:=znq hl7
  have HS:=znq (HS.znr.later hbel7)
  have HW3:=znq (HW3.znr.trans (hbel7.mono hz6))
  clear hown7 hl7 hlen7
  simp only [id]
  go_simp
  refine hK _ _ hbel7 ?_
  clear hK K hbel7
  refine zi rfl rfl (by rfl) (fun K hK=>?_)
  go_simp
  refine (HWAY.znr _ ao7 cap7 HW3.znr hc7 HL7.znr).mono ?_
  rintro e w8 ⟨v8,c8,rfl,hr8,hbel8⟩
  have HR8:=znq hr8
  have HB7:=znq (HS.znr.old HBB.znr)
  have HS:=znq (HS.znr.later hbel8)
  clear hr8
  go_simp
  refine hK _ _ hbel8 ?_
  clear hK K hbel8
  refine mqR ?_
  refine zo ?_
  go_wp2
  go_ret2
  exact ⟨w7,v8,c8,rfl,HR8.znr,by rw [← HBB.znr];exact HB7.znr,by rw [← HBB.znr];exact HS.znr.old HBB.znr⟩
 ·have d0:((mn:Int)==0)=false:=by simp;omega
  rw [← hb1]
  clear h0 hb1 HNN HONE
  have hq:=zn5
  go_wp2_with fail
  refine zn [0,1,2,3,4,5,6,7,8,9,10,11] (by kernel_rfl) (by kernel_rfl) ?_
  clear d0 hc2 hq
  rintro w4 rfl
  iterate 4 refine m1R ?_
  clear hcf
  have HS:=znq HS.znr.drew
  have HW3:=znq (HW3.znr.drew)
  have HLM:=znq (HLM.znr.below (HS.znr.old HBB.znr))
  refine zi rfl rfl (by rfl) (fun K hK=>?_)
  refine zpb 22 5 (.int .u8 0) 1 t rfl rfl rfl Tryz.underlying22 yq rfl rfl rfl (by omega) (by unfold maxLen;omega) (fun w5 hb5 hbel5=>?_)
  rw [repB] at hb5
  refine hK _ _ hbel5 ?_
  have HS:=znq (HS.znr.later hbel5)
  have HW3:=znq (HW3.znr.trans (hbel5.mono hz3))
  have HLM:=znq (HLM.znr.below hbel5)
  have HL5:=znq (show zr w5 (some ⟨w3.heap.size,0,none⟩) _ from hb5.lies)
  have hz5:=HW3.znr.size
  clear hK K hb5 hbel5
  go_simp
  generalize w3.heap.size=b5 at *
  refine zi rfl rfl (by rfl) (fun K hK=>?_)
  go_simp
  refine hK _ _ (zD _ _) ?_
  clear hK K
  have HST:=znq (show xY (w5.alloc (.cells #[.slice bo mn mc,.slice (some ⟨b5,0,none⟩) t t] 22)) (some ⟨w5.heap.size,0,none⟩) [⟨bo,mc,m⟩,⟨some ⟨b5,0,none⟩,t,zf t⟩] from ⟨by
   have:=(Blk.new w5 [.slice bo mn mc,.slice (some ⟨b5,0,none⟩) t t] 22).lies
   simpa [Str.val,HM.znr,zd] using this,by
   intro s hs
   simp at hs
   rcases hs with rfl | rfl
   ·exact ⟨by rw [HM.znr];exact hmc,HLM.znr.below (zD _ _)⟩
   ·exact ⟨by simp [zd],HL5.znr.below (zD _ _)⟩⟩)
  have HCAT:=znq (show q4 [⟨bo,mc,m⟩,⟨some ⟨b5,0,none⟩,t,zf t⟩]=m++zf t from by simp [q4])
  have HS:=znq (HS.znr.later (zD w5 (.cells #[.slice bo mn mc,.slice (some ⟨b5,0,none⟩) t t] 22)))
  have HW3:=znq (HW3.znr.trans ((zD w5 (.cells #[.slice bo mn mc,.slice (some ⟨b5,0,none⟩) t t] 22)).mono hz5))
  obtain ⟨w6,hw6⟩:∃ w6,w6=w5.alloc (.cells #[.slice bo mn mc,.slice (some ⟨b5,0,none⟩) t t] 22):=⟨_,rfl⟩
  rw [← hw6] at HST HS HW3
  rw [← hw6]
  have hz6:=HW3.znr.size
  clear hw6 HL5 HLM
  refine zi rfl rfl (by rfl) (fun K hK=>?_)
  go_simp
  refine (YU _ 2 2 _ _ rfl (by omega) HST.znr (by rw [HCAT.znr,List.length_append,HM.znr,zd];omega)).mono ?_
  rintro e w7 ⟨v7,rfl,hown7,hbel7⟩
  rw [HCAT.znr] at hown7
  have hlen7:(m++zf t).length=mn+t:=by rw [List.length_append,HM.znr,zd]
  rw [hlen7] at hown7
  obtain ⟨ao7,cap7,rfl,hc7,_,hl7⟩:=zw hown7
  have HL7:=znq hl7
  have HS:=znq (HS.znr.later hbel7)
  have HW3:=znq (HW3.znr.trans (hbel7.mono hz6))
  clear hown7 hl7 hlen7
  simp only [id]
  go_simp
  refine hK _ _ hbel7 ?_
  clear hK K hbel7
  refine zi rfl rfl (by rfl) (fun K hK=>?_)
  go_simp
  refine (HWAY.znr _ ao7 cap7 HW3.znr hc7 HL7.znr).mono ?_
  rintro e w8 ⟨v8,c8,rfl,hr8,hbel8⟩
  have HR8:=znq hr8
  have HB7:=znq (HS.znr.old HBB.znr)
  have HS:=znq (HS.znr.later hbel8)
  clear hr8
  go_simp
  refine hK _ _ hbel8 ?_
  clear hK K hbel8
  refine mqR ?_
  refine zo ?_
  go_wp2
  go_ret2
  exact ⟨w7,v8,c8,rfl,HR8.znr,by rw [← HBB.znr];exact HB7.znr,by rw [← HBB.znr];exact HS.znr.old HBB.znr⟩
theorem zpr:∀ args w,(callFunc 102 args).run Tryz.prog w=.ok (.enter 102 args) w:=enters Tryz.func102 (by kernel_rfl) rfl
theorem zps:∀ args w,(callFunc 103 args).run Tryz.prog w=.ok (.enter 103 args) w:=enters Tryz.func103 (by kernel_rfl) rfl
theorem zox:∀ args w,(callFunc 105 args).run Tryz.prog w=.ok (.enter 105 args) w:=enters Tryz.func105 (by kernel_rfl) rfl
theorem zoy:∀ args w,(callFunc 106 args).run Tryz.prog w=.ok (.enter 106 args) w:=enters Tryz.func106 (by kernel_rfl) rfl
structure Ctx (w:World) (cp:Nat) (k:ku) (t:Nat) (no:Option Addr) (nn nc:Nat) (nonce:List UInt8) (ado:Option Addr) (N adc:Nat) (ss:List Str):Prop where
 ciph:qu w cp k
 t16:t≤16
 nlen:nonce.length=nn
 nmost:nn≤5000
 ncap:nn≤nc
 nlies:zr w no (nonce.map B)
 alen:ss.length=N
 amost:N≤20
 strs:xY w ado ss
 lens:∀ s∈ss,s.bs.length≤10000
 ctx:(zoi t nonce (rowOf ss)).length≤10000
theorem Ctx.later {w w':World} {cp t nn nc N adc:Nat} {k:ku} {no ado:Option Addr} {nonce:List UInt8} {ss:List Str} (h:Ctx w cp k t no nn nc nonce ado N adc ss) (hb:Below w.heap.size w w'):Ctx w' cp k t no nn nc nonce ado N adc ss :=
 ⟨h.ciph.later hb,h.t16,h.nlen,h.nmost,h.ncap,h.nlies.below hb,h.alen,h.amost,h.strs.below hb,h.lens,h.ctx⟩
theorem zqk {k:ku} (h:k.alg≠3) (t:Nat) (nonce:List UInt8) (ad:List (List UInt8)) (m:List UInt8):zn1 k t nonce ad m=xM k (zoi t nonce ad) (m++zf t) false:=by
 cases k with
 | adi k=>rfl
 | hct k=>rfl
 | aez k=>exact absurd rfl h
theorem zql {cp t nn nc N adc:Nat} {k:ku} {no ado:Option Addr} {nonce:List UInt8} {ss:List Str} (bo:Option Addr) (mn mc:Nat) (m:List UInt8) (w:World) (hc:Ctx w cp k t no nn nc nonce ado N adc ss) (h3:k.alg≠3) (hm:m.length=mn) (hmm:mn≤15000) (hmc:mn≤mc) (hlm:zr w bo (m.map B)) (hr:k.least≤mn+t) :
  Calls Tryz.prog 54 #[.pointer (some ⟨cp,0,none⟩),.int .i64 t,.slice no nn nc,.slice ado N adc,.slice bo mn mc] w fun e w'=>∃ v,e=.returned (.tuple #[v,.int .i64 0])∧w'.ownsRow w.heap.size 5 1 v (mn+t) ((zn1 k t nonce (rowOf ss) m).map B)∧Below w.heap.size w w':=by
 have ht:=hc.t16
 refine (zov _ _ _ t bo mn mc m 105 106 (fun w'' v c w3=>c=0∧w3.ownsRow w''.heap.size 5 1 v (mn+t) ((zn1 k t nonce (rowOf ss) m).map B)) w ht hm hmm hmc hlm zox ((zo2 cp k t no nn nc nonce ado N adc ss w hc.ciph h3 ht hc.nlen hc.nmost hc.ncap hc.nlies hc.alen hc.amost hc.strs hc.lens hc.ctx).mono ?_)).mono ?_
 ·rintro e w1 ⟨bc,br,ao,n,cap,rfl,hb,hbel⟩
  refine ⟨bc,br,.nilFunc,rfl,fun _=>rfl,rfl,fun w'' bo' cb' hb'' hcb hl=>?_,hbel⟩
  refine (zqi (hb.later hb'') bo' (mn+t) cb' (m++zf t) (by rw [List.length_append,zd,hm]) hr (by omega) hcb hl).mono ?_
  rintro e w3 ⟨v,rfl,hown,hbel3⟩
  exact ⟨v,0,rfl,⟨rfl,by rw [zqk h3];exact hown⟩,hbel3⟩
 ·rintro e w1 ⟨w'',v,c,rfl,⟨rfl,hown⟩,hb1,hbel⟩
  exact ⟨v,rfl,yi hown hb1.size,hbel⟩
theorem zpt {cp t nn nc N adc:Nat} {k:ku} {no ado:Option Addr} {nonce:List UInt8} {ss:List Str} (bo:Option Addr) (mn mc:Nat) (m:List UInt8) (w:World) (hc:Ctx w cp k t no nn nc nonce ado N adc ss) (h3:k.alg≠3) (hm:m.length=mn) (hmm:mn≤15000) (hmc:mn≤mc) (hlm:zr w bo (m.map B)) (hr:mn+t < k.least) :
  Calls Tryz.prog 54 #[.pointer (some ⟨cp,0,none⟩),.int .i64 t,.slice no nn nc,.slice ado N adc,.slice bo mn mc] w fun e w'=>e=.returned (.tuple #[.slice none 0 0,.int .i64 7])∧Below w.heap.size w w':=by
 have ht:=hc.t16
 refine (zov _ _ _ t bo mn mc m 105 106 (fun w'' v c w3=>v=.slice none 0 0∧c=7) w ht hm hmm hmc hlm zox ((zo2 cp k t no nn nc nonce ado N adc ss w hc.ciph h3 ht hc.nlen hc.nmost hc.ncap hc.nlies hc.alen hc.amost hc.strs hc.lens hc.ctx).mono ?_)).mono ?_
 ·rintro e w1 ⟨bc,br,ao,n,cap,rfl,hb,hbel⟩
  refine ⟨bc,br,.nilFunc,rfl,fun _=>rfl,rfl,fun w'' bo' cb' hb'' hcb hl=>?_,hbel⟩
  refine (zpo (hb.later hb'') bo' (mn+t) cb' hr).mono ?_
  rintro e w3 ⟨rfl,rfl⟩
  exact ⟨_,7,rfl,⟨rfl,rfl⟩,Below.refl _ _⟩
 ·rintro e w1 ⟨w'',v,c,rfl,⟨rfl,rfl⟩,hb1,hbel⟩
  exact ⟨rfl,hbel⟩
theorem zqm {cp t nn nc N adc:Nat} {k:zv} {no ado:Option Addr} {nonce:List UInt8} {ss:List Str} (bo:Option Addr) (mn mc:Nat) (m:List UInt8) (w:World) (hc:Ctx w cp (.aez k) t no nn nc nonce ado N adc ss) (hm:m.length=mn) (hmm:mn≤15000) (hmc:mn≤mc) (hlm:zr w bo (m.map B)) (h0:mn≠0) :
  Calls Tryz.prog 54 #[.pointer (some ⟨cp,0,none⟩),.int .i64 t,.slice no nn nc,.slice ado N adc,.slice bo mn mc] w fun e w'=>∃ v,e=.returned (.tuple #[v,.int .i64 0])∧w'.ownsRow w.heap.size 5 1 v (mn+t) ((zn1 (.aez k) t nonce (rowOf ss) m).map B)∧Below w.heap.size w w':=by
 have ht:=hc.t16
 have e:zn1 (.aez k) t nonce (rowOf ss) m=rowA k (zns t nonce (rowOf ss)) (m++zf t) false:=by
  show zn6 k _ t m=_
  unfold zn6
  rw [if_neg (by rintro rfl;exact h0 hm.symm)]
 refine (zov _ _ _ t bo mn mc m 102 103 (fun w'' v c w3=>c=0∧w3.ownsRow w''.heap.size 5 1 v (mn+t) ((zn1 (.aez k) t nonce (rowOf ss) m).map B)) w ht hm hmm hmc hlm zpr ((zor cp k t no nn nc nonce ado N adc ss w hc.ciph ht hc.nlen hc.nmost hc.nlies hc.alen hc.amost hc.strs hc.lens).mono ?_)).mono ?_
 ·rintro e' w1 ⟨bc,br,bt,g,cap,sts,rfl,hb,hro,hbel⟩
  refine ⟨bc,br,_,rfl,fun h=>absurd h h0,rfl,fun w'' bo' cb' hb'' hcb hl=>?_,hbel⟩
  refine (zqg (hb.later hb'') bo' (mn+t) cb' (m++zf t) (by rw [List.length_append,zd,hm]) (by omega) (by omega) hcb hl).mono ?_
  rintro e' w3 ⟨v,rfl,hown,hbel3⟩
  exact ⟨v,0,rfl,⟨rfl,by rw [e,← hro];exact hown⟩,hbel3⟩
 ·rintro e' w1 ⟨w'',v,c,rfl,⟨rfl,hown⟩,hb1,hbel⟩
  exact ⟨v,rfl,yi hown hb1.size,hbel⟩
theorem zos (a b:Value) (bt:Nat) (w:World):(binOp .neq 128 (.func (.func 104) #[] #[a,b,.pointer (some ⟨bt,0,none⟩)]) .nilFunc).run Tryz.prog w=.ok (.bool true) w:=by kernel_rfl
theorem zpu {cp t nn nc N adc:Nat} {k:zv} {no ado:Option Addr} {nonce:List UInt8} {ss:List Str} (bo:Option Addr) (mc:Nat) (w:World) (hc:Ctx w cp (.aez k) t no nn nc nonce ado N adc ss) :
  Calls Tryz.prog 54 #[.pointer (some ⟨cp,0,none⟩),.int .i64 t,.slice no nn nc,.slice ado N adc,.slice bo 0 mc] w fun e w'=>∃ v,e=.returned (.tuple #[v,.int .i64 0])∧w'.ownsRow w.heap.size 5 1 v t ((zn1 (.aez k) t nonce (rowOf ss) []).map B)∧Below w.heap.size w w':=by
 have e:zn1 (.aez k) t nonce (rowOf ss) []=zog k (zns t nonce (rowOf ss)) t:=by
  show zn6 k _ t []=_
  unfold zn6
  rw [if_pos rfl]
 have HE:=znq (show zn1 (.aez k) t nonce (rowOf ss) []=zog k (zns t nonce (rowOf ss)) t∧True from ⟨e,trivial⟩)
 obtain ⟨r,hr⟩:∃ r,r=zn1 (.aez k) t nonce (rowOf ss) []:=⟨_,rfl⟩
 rw [← hr] at HE ⊢
 have HC:=znq hc
 have HS:=znq (St.start w)
 clear hc e hr
 go_enter Tryz.func54,Tryz.ntmps54
 go_wp2_with fail
 refine (zor cp k t no nn nc nonce ado N adc ss w HC.znr.ciph HC.znr.t16 HC.znr.nlen HC.znr.nmost HC.znr.nlies HC.znr.alen HC.znr.amost HC.znr.strs HC.znr.lens).mono ?_
 rintro e w1 ⟨bc,br,bt,g,cap,sts,rfl,hb,hro,hbel⟩
 have HB:=znq hb
 have HRO:=znq (show rowOf sts=zns t nonce (rowOf ss)∧True from ⟨hro,trivial⟩)
 have HS:=znq (HS.znr.later hbel)
 have hz1:=HS.znr.size
 clear hb hro hbel
 go_wp2_with (refine ze 130 [.nilFunc,.nilFunc,.nilFunc] _ rfl rfl znw rfl ?_)
 intro w2 hb hbel;have HS:=znq (HS.znr.push hb hbel);have HB2:=znq hbel;clear hb hbel
 go_wp2_with (refine (HS.znr.get 0 rfl).wstore rfl rfl rfl (cs:=zou bc br bt) rfl k7 rfl rfl (zom _ _ _) ?_)
 intro w3 hb3 ho3
 have HB:=znq (HB.znr.later (zk HB2.znr ho3 (Nat.le_refl _)))
 have HS:=znq (HS.znr.change 0 hb3 ho3 (by omega) (by simp))
 clear hb3 ho3 HB2
 have hc2:=(HS.znr.get 0 rfl).cell 2 _ rfl
 have hq:=zos (.pointer (some ⟨bc,0,none⟩)) (.pointer (some ⟨br,0,none⟩)) bt
 go_wp2_with fail
 refine (zpn HB.znr).mono ?_
 rintro e w4 ⟨v4,rfl,hown,hbel⟩
 rw [HRO.znr.1,← HE.znr.1] at hown
 have HO:=znq (yi hown HS.znr.size)
 have HS:=znq (HS.znr.later hbel)
 clear hown hbel hc2 hq
 go_wp2
 go_ret2
 exact ⟨_,rfl,HO.znr,HS.znr.bel⟩
end Go.Proofs.YtjaioajjfiaheaaGreatDoor
namespace Go.Proofs.YtjaioajjfiaheaaGreatDoor
open Go.RowKit Go.Mem Go.Ops Go.Cells Go.Oct Go.Gf Go.Trn Go.Aes Go.Ring Go.Ezk Go.Ezh Go.Ezt Go.Ezc Go.Aez Go.Blake Go.CutP Go.Fl Go.Adi Go.Hct Go.Wid
attribute [local irreducible] zE zN zO zM yu
def Out (w':World) (base:Nat) (o:Option (List UInt8)) (e:Ending):Prop:=match o with
 | some m=>∃ ao,e=.returned (.tuple #[.slice ao m.length m.length,.int .i64 0])∧zr w' ao (m.map B)∧(0 < m.length→∃ g tl,ao=some ⟨g,0,none⟩∧base≤g∧Blk w' g (m.map B++tl) 5)
 | none=>e=.returned (.tuple #[.slice none 0 0,.int .i64 9])
theorem zdv (cv nv av mv:Value) (t c:Int) (w:World) (hc:c≠0) (hb:Calls Tryz.prog 82 #[cv,.int .i64 t,nv,av] w fun e w'=>e=.returned (.tuple #[.agg #[.nilFunc,.nilFunc,.nilFunc],.int .i64 c])∧Below w.heap.size w w') :
  Calls Tryz.prog 55 #[cv,.int .i64 t,nv,av,mv] w fun e w'=>e=.returned (.tuple #[.slice none 0 0,.int .i64 c])∧Below w.heap.size w w':=by
 have HB:=znq hb
 have HS:=znq (St.start w)
 have d0:(c != 0)=true:=by simp;omega
 clear hb hc
 go_enter Tryz.func55,Tryz.ntmps55
 go_wp2_with fail
 refine yd 0 (fun _ _=>False) (fun _ _=>0) rfl ?_ (fun _ _ h=>h.elim)
 simp only [q9]
 go_wp2_with fail
 refine HB.znr.mono ?_
 rintro e w1 ⟨rfl,hbel⟩
 have HS:=znq (HS.znr.later hbel)
 have hz1:=HS.znr.size
 clear hbel
 go_wp2_with (refine ze 130 [.nilFunc,.nilFunc,.nilFunc] _ rfl rfl znw rfl ?_)
 intro w2 hb hbel;have HS:=znq (HS.znr.push hb hbel);clear hb hbel
 go_wp2_with (refine (HS.znr.get 0 rfl).wstore rfl rfl rfl (cs:=[.nilFunc,.nilFunc,.nilFunc]) rfl k7 rfl rfl (by simp [Value.oneCell']) ?_)
 intro w3 hb3 ho3
 have HBE:=znq (zk HS.znr.bel ho3 hz1)
 clear hb3 ho3
 go_wp2
 rw [Exit.jump_ret]
 go_ret2
 exact ⟨rfl,HBE.znr⟩
theorem zo9 (cv nv av:Value) (t:Nat) (bo:Option Addr) (bn bc:Nat) (w:World) (h:bn < t) (ht:t≤16)
  (hb:Calls Tryz.prog 82 #[cv,.int .i64 t,nv,av] w fun e w'=>∃ vs:List Value,e=.returned (.tuple #[.agg vs.toArray,.int .i64 0])∧vs.length=3∧(∀ v∈vs,v.oneCell'=true)∧Below w.heap.size w w') :
  Calls Tryz.prog 55 #[cv,.int .i64 t,nv,av,.slice bo bn bc] w fun e w'=>e=.returned (.tuple #[.slice none 0 0,.int .i64 9])∧Below w.heap.size w w':=by
 have HB:=znq hb
 have HS:=znq (St.start w)
 obtain ⟨z,hz⟩:∃ z:Int,(bn:Int) - (t:Int)=z:=⟨_,rfl⟩
 have hz0:z < 0:=by omega
 have d0:decide (z < 0)=true:=decide_eq_true hz0
 have hzr:-1000≤z:=by omega
 clear hb h
 go_enter Tryz.func55,Tryz.ntmps55
 go_wp2_with fail
 refine yd 0 (zkh True w) (fun _ _=>0) rfl ?_ ?_
 ·simp only [q9]
  go_wp2_with fail
  refine HB.znr.mono ?_
  rintro e w1 ⟨vs,rfl,h3,hone,hbel⟩
  have HONE:=znq hone
  have H3:=znq h3
  have HS:=znq (HS.znr.later hbel)
  have hz1:=HS.znr.size
  clear hbel h3 hone
  go_wp2_with (refine ze 130 [.nilFunc,.nilFunc,.nilFunc] _ rfl rfl znw rfl ?_)
  intro w2 hb hbel;have HS:=znq (HS.znr.push hb hbel);clear hb hbel
  go_wp2_with (refine (HS.znr.get 0 rfl).wstore rfl rfl rfl (cs:=vs) rfl k7 rfl H3.znr HONE.znr ?_)
  intro w3 hb3 ho3
  have HBE:=znq (zk HS.znr.bel ho3 (by omega))
  clear hb3 ho3
  go_wp2
  refine wp_goto ⟨rfl,zkh.intro rfl trivial HBE.znr⟩
 ·rintro x wr ⟨us,rfl,_,HBE⟩
  clear HS
  go_wp2
  rw [Exit.jump_ret]
  go_ret2
  exact ⟨rfl,HBE.znr⟩
theorem zpa (cv nv av:Value) (t:Nat) (bo:Option Addr) (bn bc:Nat) (r:List UInt8) (F1 F2:Nat) (w:World) (ht:t≤16) (hge:t≤bn) (hbm:bn≤15000) (hrl:r.length=bn) (hF:∀ args w,(callFunc F2 args).run Tryz.prog w=.ok (.enter F2 args) w)
  (hb:Calls Tryz.prog 82 #[cv,.int .i64 t,nv,av] w fun e w'=>∃ p1 p2 nn,e=.returned (.tuple #[.agg (zoc F1 F2 p1 p2 nn).toArray,.int .i64 0])∧(bn=t→nn=.nilFunc)∧nn.oneCell'=true ∧
   (∀ w'',Below w'.heap.size w' w''→Below w.heap.size w w''→Calls Tryz.prog F2 #[.slice bo bn bc,.pointer (some ⟨p1,0,none⟩),.pointer (some ⟨p2,0,none⟩)] w'' fun e w3=>∃ v,e=.returned (.tuple #[v,.int .i64 0])∧w3.ownsRow w''.heap.size 5 1 v bn (r.map B)∧Below w''.heap.size w'' w3)∧Below w.heap.size w w') :
  Calls Tryz.prog 55 #[cv,.int .i64 t,nv,av,.slice bo bn bc] w fun e w'=>Out w' w.heap.size (if r.drop (bn - t)=zf t then some (r.take (bn - t)) else none) e∧Below w.heap.size w w':=by
 have HBI:=znq hb
 have HRL:=znq hrl
 have HS:=znq (St.start w)
 obtain ⟨m,hm⟩:∃ m,m=bn - t:=⟨_,rfl⟩
 have e0:(bn:Int) - (t:Int)=(m:Int):=by omega
 have d0:decide ((m:Int) < 0)=false:=by simp
 have hmb:m≤bn:=by omega
 have HM:=znq (show (bn=t↔m=0)∧bn - m=t from ⟨by omega,by omega⟩)
 have HDL:=znq (show (r.drop m).length=bn - m by rw [List.length_drop,HRL.znr])
 rw [← hm]
 clear hb hrl hm
 go_enter Tryz.func55,Tryz.ntmps55
 go_wp2_with fail
 refine yd 0 (zkh (¬ r.drop m=zf t) w) (fun _ _=>0) rfl ?_ ?_
 ·simp only [q9]
  go_wp2_with fail
  refine HBI.znr.mono ?_
  rintro e w1 ⟨p1,p2,nn,rfl,hnn,hone,hway,hbel⟩
  have HWAY:=znq hway
  have HONE:=znq hone
  have HNN:=znq (show m=0→nn=.nilFunc from fun h=>hnn (HM.znr.1.2 h))
  have HS:=znq (HS.znr.later hbel)
  have hz1:=HS.znr.size
  clear hway hbel hone hnn HBI
  go_wp2_with (refine ze 130 [.nilFunc,.nilFunc,.nilFunc] _ rfl rfl znw rfl ?_)
  intro w2 hb hbel;have HS:=znq (HS.znr.push hb hbel);have HB2:=znq hbel;have hlt2:=hb.lt;clear hb hbel
  go_wp2_with (refine (HS.znr.get 0 rfl).wstore rfl rfl rfl (cs:=zoc F1 F2 p1 p2 nn) rfl k7 rfl rfl (zod HONE.znr) ?_)
  intro w3 hb3 ho3
  have HW3:=znq (zk HB2.znr ho3 (Nat.le_refl _))
  have HS:=znq (HS.znr.change 0 hb3 ho3 (by omega) (by simp))
  clear hb3 ho3 HB2
  obtain ⟨b1,hb1⟩:∃ b1,b1=w1.heap.size:=⟨_,rfl⟩
  rw [← hb1] at HS
  have hcf:=(HS.znr.get 0 rfl).cell 1 _ rfl
  have hc2:=(HS.znr.get 0 rfl).cell 2 _ rfl
  have hq:=zn5
  rw [← hb1]
  clear hb1 HONE
  by_cases h0:m=0
  all_goals first | (have hn:=HNN.znr h0;subst hn;have d1:((m:Int)==0)=true:=(by simp;omega)) | (have d1:((m:Int)==0)=false:=(by simp;omega))
  all_goals (clear h0 HNN;go_wp2_with fail;refine (HWAY.znr _ HW3.znr (HS.znr.bel)).mono ?_;clear d1)
  all_goals (
   rintro e w4 ⟨v4,rfl,hown4,hbel4⟩
   have HZ3:=znq HS.znr.size
   obtain ⟨ao4,cap4,rfl,hcap4,_,hl4⟩:=zw hown4
   have HO4:=znq hown4
   have HL4:=znq hl4
   have HS:=znq (HS.znr.later hbel4)
   have hs:=fun w=>yv (P:=Tryz.prog) w 22 5 1 Tryz.underlying22 zl ao4 bn cap4 m (m:Int) rfl hmb
   have hs3:=fun w=>zph (P:=Tryz.prog) w 22 5 1 Tryz.underlying22 zl ao4 bn cap4 m (by omega)
   clear hown4 hl4 hbel4 hcf hc2 hq
   go_wp2_with fail
   refine zn [0,1,2,3,4,5,6,7,8,9,10] (by kernel_rfl) (by kernel_rfl) ?_
   rintro w5 rfl
   iterate 7 refine m1R ?_
   have HS:=znq HS.znr.drew
   have HO4:=znq (zm HO4.znr (Below.refl _ _).drew)
   refine zi rfl rfl (by rfl) (fun K hK=>?_)
   refine zpb 22 5 (.int .u8 0) 1 t rfl rfl rfl Tryz.underlying22 yq rfl rfl rfl (by omega) (by unfold maxLen;omega) (fun w6 hb6 hbel6=>?_)
   rw [repB] at hb6
   refine hK _ _ hbel6 ?_
   have HS:=znq (HS.znr.later hbel6)
   have HO4:=znq (zm HO4.znr hbel6)
   have HL6:=znq hb6.lies
   clear hK K hb6 hbel6
   go_simp
   refine zi rfl rfl (by rfl) (fun K hK=>?_)
   go_simp
   refine (zp7 (yy ao4 cap4 m) _ (bn - m) t (cap4 - m) t (r.drop m) (zf t) _ HDL.znr (zd t) (by omega) (zr.dropA (zr.of_own HO4.znr) (by rw [HRL.znr];exact hcap4) m) HL6.znr).mono ?_
   rintro e w7 ⟨rfl,hbel7⟩
   have HS:=znq (HS.znr.later hbel7)
   have HO4:=znq (zm HO4.znr hbel7)
   by_cases hz:r.drop m=zf t
   ·have HZ:=znq (show (r.drop m=zf t)∧True from ⟨hz,trivial⟩)
    rw [decide_eq_true hz]
    clear hz
    go_simp
    refine hK _ _ hbel7 ?_
    clear hK K hbel7
    refine mqR ?_
    refine zo ?_
    go_wp2
    rw [Exit.jump_ret]
    go_ret2
    rw [if_pos HZ.znr.1]
    have hlm:(r.take m).length=m:=by rw [List.length_take,HRL.znr];omega
    refine ⟨⟨ao4,by rw [hlm];rfl,?_,fun h0=>?_⟩,HS.znr.bel⟩
    ·have:=(zr.of_own HO4.znr).take m
     rwa [← List.map_take] at this
    ·obtain ⟨g,c',tl,e1,hbk,hge,_⟩:=YK HO4.znr (by rw [hlm] at h0;omega)
     cases e1
     refine ⟨g,(r.drop m).map B++tl,rfl,by have:=HZ3.znr;omega,?_⟩
     rw [← List.append_assoc,← List.map_append,List.take_append_drop]
     exact hbk
   ·have HZ:=znq hz
    rw [decide_eq_false hz]
    clear hz
    go_simp
    refine hK _ _ hbel7 ?_
    clear hK K hbel7
    refine mqR ?_
    refine zo ?_
    go_wp2
    refine wp_goto ⟨rfl,zkh.intro rfl HZ.znr (HS.znr.bel)⟩)
 ·rintro x wr ⟨us,rfl,HZ,HB⟩
  clear HS
  go_wp2
  rw [Exit.jump_ret]
  go_ret2
  rw [if_neg HZ.znr]
  exact ⟨rfl,HB.znr⟩
theorem zpv (cv nv av:Value) (t:Nat) (bo:Option Addr) (bn bc:Nat) (F1 F2:Nat) (w:World) (ht:t≤16) (hge:t≤bn) (hbm:bn≤15000) (hF:∀ args w,(callFunc F2 args).run Tryz.prog w=.ok (.enter F2 args) w)
  (hb:Calls Tryz.prog 82 #[cv,.int .i64 t,nv,av] w fun e w'=>∃ p1 p2,e=.returned (.tuple #[.agg (zoc F1 F2 p1 p2 .nilFunc).toArray,.int .i64 0]) ∧
   (∀ w'',Below w'.heap.size w' w''→Calls Tryz.prog F2 #[.slice bo bn bc,.pointer (some ⟨p1,0,none⟩),.pointer (some ⟨p2,0,none⟩)] w'' fun e w3=>e=.returned (.tuple #[.slice none 0 0,.int .i64 7])∧w''=w3)∧Below w.heap.size w w') :
  Calls Tryz.prog 55 #[cv,.int .i64 t,nv,av,.slice bo bn bc] w fun e w'=>e=.returned (.tuple #[.slice none 0 0,.int .i64 9])∧Below w.heap.size w w':=by
 have HBI:=znq hb
 have HS:=znq (St.start w)
 obtain ⟨m,hm⟩:∃ m,m=bn - t:=⟨_,rfl⟩
 have e0:(bn:Int) - (t:Int)=(m:Int):=by omega
 have d0:decide ((m:Int) < 0)=false:=by simp
 clear hb hm
 go_enter Tryz.func55,Tryz.ntmps55
 go_wp2_with fail
 refine yd 0 (zkh True w) (fun _ _=>0) rfl ?_ ?_
 ·simp only [q9]
  go_wp2_with fail
  refine HBI.znr.mono ?_
  rintro e w1 ⟨p1,p2,rfl,hway,hbel⟩
  have HWAY:=znq hway
  have HS:=znq (HS.znr.later hbel)
  have hz1:=HS.znr.size
  clear hway hbel HBI
  go_wp2_with (refine ze 130 [.nilFunc,.nilFunc,.nilFunc] _ rfl rfl znw rfl ?_)
  intro w2 hb hbel;have HS:=znq (HS.znr.push hb hbel);have HB2:=znq hbel;have hlt2:=hb.lt;clear hb hbel
  go_wp2_with (refine (HS.znr.get 0 rfl).wstore rfl rfl rfl (cs:=zoc F1 F2 p1 p2 .nilFunc) rfl k7 rfl rfl (zod rfl) ?_)
  intro w3 hb3 ho3
  have HW3:=znq (zk HB2.znr ho3 (Nat.le_refl _))
  have HS:=znq (HS.znr.change 0 hb3 ho3 (by omega) (by simp))
  clear hb3 ho3 HB2
  obtain ⟨b1,hb1⟩:∃ b1,b1=w1.heap.size:=⟨_,rfl⟩
  rw [← hb1] at HS
  have hcf:=(HS.znr.get 0 rfl).cell 1 _ rfl
  have hc2:=(HS.znr.get 0 rfl).cell 2 _ rfl
  have hq:=zn5
  rw [← hb1]
  clear hb1
  by_cases h0:m=0
  all_goals first | (have d1:((m:Int)==0)=true:=(by rw [h0];rfl)) | (have d1:((m:Int)==0)=false:=(by simp;omega))
  all_goals (clear h0;go_wp2_with fail;refine (HWAY.znr _ HW3.znr).mono ?_)
  all_goals (
   rintro e w4 ⟨rfl,rfl⟩
   go_wp2_with fail
   refine zn [0,1,2,3,4,5,6,7,8,9,10] (by kernel_rfl) (by kernel_rfl) ?_
   rintro w5 rfl
   refine mqW ?_
   refine zo ?_
   go_wp2
   refine wp_goto ⟨rfl,zkh.intro rfl trivial HS.znr.bel.drew⟩)
 ·rintro x wr ⟨us,rfl,_,HB⟩
  clear HS
  go_wp2
  rw [Exit.jump_ret]
  go_ret2
  exact ⟨rfl,HB.znr⟩
theorem zp4 {cp t nn nc N adc:Nat} {k:zv} {no ado:Option Addr} {nonce:List UInt8} {ss:List Str} (bo:Option Addr) (bc:Nat) (b:List UInt8) (w:World) (hc:Ctx w cp (.aez k) t no nn nc nonce ado N adc ss) (hb:b.length=t) (hlb:zr w bo (b.map B)) :
  Calls Tryz.prog 55 #[.pointer (some ⟨cp,0,none⟩),.int .i64 t,.slice no nn nc,.slice ado N adc,.slice bo t bc] w fun e w'=>Out w' w.heap.size (zoa (.aez k) t nonce (rowOf ss) b) e∧Below w.heap.size w w':=by
 have HOP:=znq (show zoa (.aez k) t nonce (rowOf ss) b=(if b=zog k (zns t nonce (rowOf ss)) t then some [] else none)∧True from ⟨by
  show zn9 k _ t b=_
  unfold zn9
  rw [hb,if_neg (by omega),if_pos rfl],trivial⟩)
 obtain ⟨r,hr⟩:∃ r,r=zog k (zns t nonce (rowOf ss)) t:=⟨_,rfl⟩
 have HR:=znq (show zog k (zns t nonce (rowOf ss)) t=r∧r.length=t from ⟨hr.symm,by rw [hr];exact zow _ _ _⟩)
 rw [HOP.znr.1,← hr]
 have ht:=hc.t16
 have HC:=znq hc
 have HB:=znq hb
 have HLB:=znq hlb
 have HS:=znq (St.start w)
 have e0:(t:Int) - (t:Int)=0:=by omega
 clear hc hb hlb hr HOP
 go_enter Tryz.func55,Tryz.ntmps55
 go_wp2_with fail
 refine yd 0 (zkh (¬ b=r) w) (fun _ _=>0) rfl ?_ ?_
 ·simp only [q9]
  go_wp2_with fail
  refine (zor cp k t no nn nc nonce ado N adc ss w HC.znr.ciph HC.znr.t16 HC.znr.nlen HC.znr.nmost HC.znr.nlies HC.znr.alen HC.znr.amost HC.znr.strs HC.znr.lens).mono ?_
  rintro e w1 ⟨bc',br,bt,g,cap,sts,rfl,hb,hro,hbel⟩
  have HBN:=znq hb
  have HRO:=znq (show rowOf sts=zns t nonce (rowOf ss)∧True from ⟨hro,trivial⟩)
  have HS:=znq (HS.znr.later hbel)
  have hz1:=HS.znr.size
  clear hb hro hbel
  go_wp2_with (refine ze 130 [.nilFunc,.nilFunc,.nilFunc] _ rfl rfl znw rfl ?_)
  intro w2 hb hbel;have HS:=znq (HS.znr.push hb hbel);have HB2:=znq hbel;clear hb hbel
  go_wp2_with (refine (HS.znr.get 0 rfl).wstore rfl rfl rfl (cs:=zou bc' br bt) rfl k7 rfl rfl (zom _ _ _) ?_)
  intro w3 hb3 ho3
  have HBN:=znq (HBN.znr.later (zk HB2.znr ho3 (Nat.le_refl _)))
  have HS:=znq (HS.znr.change 0 hb3 ho3 (by omega) (by simp))
  clear hb3 ho3 HB2
  have hc2:=(HS.znr.get 0 rfl).cell 2 _ rfl
  have hq:=zos (.pointer (some ⟨bc',0,none⟩)) (.pointer (some ⟨br,0,none⟩)) bt
  go_wp2_with fail
  refine (zpn HBN.znr).mono ?_
  rintro e w4 ⟨v4,rfl,hown,hbel⟩
  rw [HRO.znr.1,HR.znr.1] at hown
  obtain ⟨ao4,cap4,rfl,hcap4,_,hl4⟩:=zw hown
  have HL4:=znq hl4
  have HS:=znq (HS.znr.later hbel)
  clear hown hbel hc2 hq hl4
  go_wp2_with fail
  refine (zp7 bo ao4 t t bc cap4 b r _ HB.znr HR.znr.2 (by omega) (HLB.znr.below HS.znr.bel) HL4.znr).mono ?_
  rintro e w5 ⟨rfl,hbel⟩
  have HS:=znq (HS.znr.later hbel)
  clear hbel
  by_cases hz:b=r
  ·have HZ:=znq (show b=r∧True from ⟨hz,trivial⟩)
   rw [decide_eq_true hz]
   clear hz
   go_wp2
   rw [Exit.jump_ret]
   go_ret2
   rw [if_pos HZ.znr.1]
   exact ⟨⟨none,rfl,zr.nil _ _,fun h=>absurd h (by simp)⟩,HS.znr.bel⟩
  ·have HZ:=znq hz
   rw [decide_eq_false hz]
   clear hz
   go_wp2
   refine wp_goto ⟨rfl,zkh.intro rfl HZ.znr HS.znr.bel⟩
 ·rintro x wr ⟨us,rfl,HZ,HBE⟩
  clear HS
  go_wp2
  rw [Exit.jump_ret]
  go_ret2
  rw [if_neg HZ.znr]
  exact ⟨rfl,HBE.znr⟩
theorem zpw {cp t nn nc N adc:Nat} {k:ku} {no ado:Option Addr} {nonce:List UInt8} {ss:List Str} (bo:Option Addr) (mn mc:Nat) (m:List UInt8) (w:World) (hc:Ctx w cp k t no nn nc nonce ado N adc ss) (hm:m.length=mn) (hmm:mn≤15000) (hmc:mn≤mc) (hlm:zr w bo (m.map B)) (hr:k.room t mn) :
  Calls Tryz.prog 54 #[.pointer (some ⟨cp,0,none⟩),.int .i64 t,.slice no nn nc,.slice ado N adc,.slice bo mn mc] w fun e w'=>∃ v,e=.returned (.tuple #[v,.int .i64 0])∧w'.ownsRow w.heap.size 5 1 v (mn+t) ((zn1 k t nonce (rowOf ss) m).map B)∧Below w.heap.size w w':=by
 by_cases h3:k.alg=3
 ·obtain ⟨p,rfl⟩:∃ p,k=.aez p:=by cases k <;> first | exact ⟨_,rfl⟩ | cases h3
  by_cases h0:mn=0
  ·subst h0
   obtain rfl:=List.eq_nil_of_length_eq_zero hm
   rw [Nat.zero_add]
   exact zpu bo mc w hc
  ·exact zqm bo mn mc m w hc hm hmm hmc hlm h0
 ·exact zql bo mn mc m w hc h3 hm hmm hmc hlm (hr.resolve_left h3)
theorem zo3 {cv nv av:Value} {t:Int} {w:World} {F1 F2:Nat} (hb:Calls Tryz.prog 82 #[cv,.int .i64 t,nv,av] w fun e w'=>∃ p1 p2 nn,e=.returned (.tuple #[.agg (zoc F1 F2 p1 p2 nn).toArray,.int .i64 0])∧nn.oneCell'=true∧Below w.heap.size w w') :
  Calls Tryz.prog 82 #[cv,.int .i64 t,nv,av] w fun e w'=>∃ vs:List Value,e=.returned (.tuple #[.agg vs.toArray,.int .i64 0])∧vs.length=3∧(∀ v∈vs,v.oneCell'=true)∧Below w.heap.size w w' :=
 hb.mono fun e w' ⟨p1,p2,nn,he,h1,hbel⟩=>⟨_,he,rfl,zod h1,hbel⟩
theorem zo4 {cp t nn nc N adc:Nat} {k:ku} {no ado:Option Addr} {nonce:List UInt8} {ss:List Str} (bo:Option Addr) (bn bc:Nat) (b:List UInt8) (w:World) (hc:Ctx w cp k t no nn nc nonce ado N adc ss) (hb:b.length=bn) (hbm:bn≤15000) (hbc:bn≤bc) (hlb:zr w bo (b.map B)) :
  Calls Tryz.prog 55 #[.pointer (some ⟨cp,0,none⟩),.int .i64 t,.slice no nn nc,.slice ado N adc,.slice bo bn bc] w fun e w'=>Out w' w.heap.size (zoa k t nonce (rowOf ss) b) e∧Below w.heap.size w w':=by
 have ht:=hc.t16
 by_cases h3:k.alg=3
 ·obtain ⟨p,rfl⟩:∃ p,k=.aez p:=by cases k <;> first | exact ⟨_,rfl⟩ | cases h3
  have hbi:=zor cp p t no nn nc nonce ado N adc ss w hc.ciph ht hc.nlen hc.nmost hc.nlies hc.alen hc.amost hc.strs hc.lens
  by_cases hlt:bn < t
  ·refine (zo9 _ _ _ t bo bn bc w hlt ht (zo3 (F1:=102) (F2:=103) (hbi.mono fun e w' ⟨bc,br,bt,g,cap,sts,he,_,_,hbel⟩=>⟨bc,br,_,he,rfl,hbel⟩))).mono ?_
   rintro e w' ⟨rfl,hbel⟩
   have e:zoa (.aez p) t nonce (rowOf ss) b=none:=by show zn9 p _ t b=_;unfold zn9;rw [if_pos (by omega)]
   rw [e]
   exact ⟨rfl,hbel⟩
  ·by_cases he:bn=t
   ·subst he
    exact zp4 bo bc b w hc hb hlb
   ·have e:zoa (.aez p) t nonce (rowOf ss) b=(if (rowA p (zns t nonce (rowOf ss)) b true).drop (bn - t)=zf t then some ((rowA p (zns t nonce (rowOf ss)) b true).take (bn - t)) else none):=by
     show zn9 p _ t b=_
     unfold zn9
     rw [hb,if_neg hlt,if_neg he]
    rw [e]
    refine zpa _ _ _ t bo bn bc _ 102 103 w ht (by omega) hbm (by rw [Kg];exact hb) zps (hbi.mono ?_)
    rintro e' w1 ⟨bc',br,bt,g,cap,sts,rfl,hbn,hro,hbel⟩
    refine ⟨bc',br,_,rfl,fun h=>absurd h he,rfl,fun w'' hb'' hbw=>?_,hbel⟩
    have:=zqh (hbn.later hb'') bo bn bc b hb (by omega) (by omega) hbc (hlb.below hbw)
    rw [hro] at this
    exact this
 ·have hbi:=zo2 cp k t no nn nc nonce ado N adc ss w hc.ciph h3 ht hc.nlen hc.nmost hc.ncap hc.nlies hc.alen hc.amost hc.strs hc.lens hc.ctx
  have eo:zoa k t nonce (rowOf ss) b=zoq k (zoi t nonce (rowOf ss)) t b:=by
   cases k with
   | adi k=>rfl
   | hct k=>rfl
   | aez k=>exact absurd rfl h3
  rw [eo]
  unfold zoq
  rw [hb]
  by_cases hlt:bn < t
  ·rw [if_pos hlt]
   refine (zo9 _ _ _ t bo bn bc w hlt ht (zo3 (F1:=105) (F2:=106) (hbi.mono fun e w' ⟨bc,br,ao,n,cap,he,_,hbel⟩=>⟨bc,br,_,he,rfl,hbel⟩))).mono ?_
   rintro e w' ⟨rfl,hbel⟩
   exact ⟨rfl,hbel⟩
  ·rw [if_neg hlt]
   by_cases hs:bn < k.least
   ·rw [if_pos hs]
    refine (zpv _ _ _ t bo bn bc 105 106 w ht (by omega) hbm zoy (hbi.mono ?_)).mono ?_
    ·rintro e' w1 ⟨bc',br,ao,n,cap,rfl,hbn,hbel⟩
     exact ⟨bc',br,rfl,fun w'' hb''=>zpp (hbn.later hb'') bo bn bc hs,hbel⟩
    ·rintro e w' ⟨rfl,hbel⟩
     exact ⟨rfl,hbel⟩
   ·rw [if_neg hs]
    refine zpa _ _ _ t bo bn bc _ 105 106 w ht (by omega) hbm (by rw [q7 _ _ (by omega)];exact hb) zoy (hbi.mono ?_)
    rintro e' w1 ⟨bc',br,ao,n,cap,rfl,hbn,hbel⟩
    exact ⟨bc',br,_,rfl,fun _=>rfl,rfl,fun w'' hb'' hbw=>zqj (hbn.later hb'') bo bn bc b hb (by omega) (by omega) hbc (hlb.below hbw),hbel⟩
end Go.Proofs.YtjaioajjfiaheaaGreatDoor
namespace Go.Proofs.YtjaioajjfiaheaaGreatDoor
open Go.RowKit Go.Mem Go.Ops Go.Cells Go.Oct Go.Gf Go.Trn Go.Aes Go.Ring Go.Ezk Go.Ezh Go.Ezt Go.Ezc Go.Aez Go.Blake Go.CutP Go.Fl Go.Adi Go.Hct Go.Wid
attribute [local irreducible] zE zN zO zM yu
def znt (alg:Int) (a1:Option Addr) (n1 c1:Nat) (a2:Option Addr) (n2 c2:Nat) (t:Int) (a4:Option Addr) (N c4:Nat) (a5:Option Addr) (n5 c5:Nat):List Value:=[.int .i64 alg,.slice a1 n1 c1,.slice a2 n2 c2,.int .i64 t,.slice a4 N c4,.slice a5 n5 c5]
theorem yb:Row Tryz.prog 25 6:=⟨by kernel_rfl,by kernel_rfl⟩
def zn0 (alg:Int) (n1 n2 N n5:Nat) (ss:List Str):Bool:=decide ((∀ s∈ss,s.bs.length≤60)∧n1≤200∧znv alg n1=0∧n2≤60∧N≤6∧n5≤200)
theorem znx (t:Int) (w:World):Calls Tryz.prog 16 #[.int .i64 t] w fun e w'=>e=.returned (.bool (decide (0≤t∧t≤16)))∧w=w':=by
 by_cases h0:0≤t
 ·have d0:decide (t≥0)=true:=by simp;omega
  by_cases h1:t≤16
  ·have d1:decide (t≤16)=true:=by simp;omega
   rw [decide_eq_true (show 0≤t∧t≤16 from ⟨h0,h1⟩)]
   go_enter Tryz.func16,Tryz.ntmps16
   go_wp2
   go_ret
   exact ⟨rfl,rfl⟩
  ·have d1:decide (t≤16)=false:=by simp;omega
   rw [decide_eq_false (show ¬ (0≤t∧t≤16) from fun h=>h1 h.2)]
   go_enter Tryz.func16,Tryz.ntmps16
   go_wp2
   go_ret
   exact ⟨rfl,rfl⟩
 ·have d0:decide (t≥0)=false:=by simp;omega
  rw [decide_eq_false (show ¬ (0≤t∧t≤16) from fun h=>h0 h.1)]
  go_enter Tryz.func16,Tryz.ntmps16
  go_wp2
  go_ret
  exact ⟨rfl,rfl⟩
theorem znu (alg:Int) (a1:Option Addr) (n1 c1:Nat) (a2:Option Addr) (n2 c2:Nat) (t:Int) (a4:Option Addr) (N c4:Nat) (a5:Option Addr) (n5 c5:Nat) (ss:List Str) (w:World) (hN:ss.length=N) (hNm:N≤maxLen) (hs:zr w a4 (ss.map Str.val)) :
  Calls Tryz.prog 15 #[.agg (znt alg a1 n1 c1 a2 n2 c2 t a4 N c4 a5 n5 c5).toArray] w fun e w'=>e=.returned (.bool (zn0 alg n1 n2 N n5 ss))∧Below w.heap.size w w':=by
 obtain ⟨r,hr⟩:∃ r,r=zn0 alg n1 n2 N n5 ss:=⟨_,rfl⟩
 rw [← hr]
 have HR:=znq (show r=zn0 alg n1 n2 N n5 ss∧True from ⟨hr,trivial⟩)
 have HN:=znq hN
 have HSS:=znq hs
 have HS:=znq (St.start w)
 unfold maxLen at hNm
 clear hN hs hr
 go_enter Tryz.func15,Tryz.ntmps15
 go_wp2_with (refine zh 25 _ (znt alg a1 n1 c1 a2 n2 c2 t a4 N c4 a5 n5 c5) _ rfl rfl rfl rfl ?_)
 intro w1 hb hbel;have HS:=znq (HS.znr.push hb hbel);clear hb hbel
 have HSS:=znq (HSS.znr.below HS.znr.bel)
 have hx4:=(HS.znr.get 0 rfl).cell 4 _ rfl
 go_wp2
 go_loopw [3] (fun c wr=>∃ i:Nat,i≤N∧c=.int .i64 i∧Hid (∀ s∈ss.take i,s.bs.length≤60)∧w1=wr) (fun c _=>N - (intOf c).toNat)
 case atStart=>exact ⟨0,by omega,rfl,znq (by simp),rfl⟩
 case round =>
  obtain ⟨i,hi,rfl,HAL,rfl⟩:=hrel
  by_cases hlt:i < N
  ·obtain ⟨⟨sa,sc,sb⟩,hs⟩:∃ s,ss[i]? = some s:=⟨ss[i]'(by rw [HN.znr];exact hlt),by simp⟩
   obtain ⟨b,off,rfl,hc⟩:=HSS.znr i (.slice sa sb.length sc) (by rw [List.getElem?_map,hs];rfl)
   have hm:=List.mem_of_getElem? hs
   by_cases h60:sb.length≤60
   ·have d0:decide ((sb.length:Int) > 60)=false:=by simp;omega
    have HAL:=znq (show ∀ s∈ss.take (i+1),s.bs.length≤60 from by
     intro s hs'
     rw [List.take_add_one,hs] at hs'
     rcases List.mem_append.1 hs' with h | h
     ·exact HAL.znr s h
     ·simp at h;subst h;exact h60)
    clear hs hm
    go_wp2
    go_roundw
    case rel=>exact ⟨i+1,by omega,by go_num,HAL,trivial⟩
    case measure=>simp [intOf];omega
   ·have d0:decide ((sb.length:Int) > 60)=true:=by simp;omega
    have HF:=znq (show r=false∧True from ⟨by rw [HR.znr.1];exact decide_eq_false (fun h=>h60 (h.1 _ hm)),trivial⟩)
    clear hs hm
    go_wp2
    go_ret
    rw [HF.znr.1]
    exact ⟨rfl,HS.znr.bel⟩
  ·obtain rfl:i=N:=by omega
   have HAL:=znq (show ∀ s∈ss,s.bs.length≤60 from by
    have h:=HAL.znr
    rwa [List.take_of_length_le (by rw [HN.znr];exact Nat.le_refl _)] at h)
   have hx0:=(HS.znr.get 0 rfl).cell 0 _ rfl
   have hx1:=(HS.znr.get 0 rfl).cell 1 _ rfl
   have hx2:=(HS.znr.get 0 rfl).cell 2 _ rfl
   have hx5:=(HS.znr.get 0 rfl).cell 5 _ rfl
   by_cases h1:n1≤200
   rotate_left
   ·have d1:decide ((n1:Int)≤200)=false:=by simp;omega
    have HF:=znq (show r=false∧True from ⟨by rw [HR.znr.1];exact decide_eq_false (fun h=>h1 h.2.1),trivial⟩)
    clear h1
    go_wp2
    go_ret
    rw [HF.znr.1]
    exact ⟨rfl,HS.znr.bel⟩
   have d1:decide ((n1:Int)≤200)=true:=by simp;omega
   have H1:=znq h1
   clear h1
   go_wp2_with fail
   refine (qb alg a1 n1 c1 _).mono ?_
   rintro e w2 ⟨rfl,rfl⟩
   by_cases hw:znv alg n1=0
   rotate_left
   ·have d2:((znv alg n1:Int)==0)=false:=by simp;omega
    have HF:=znq (show r=false∧True from ⟨by rw [HR.znr.1];exact decide_eq_false (fun h=>hw h.2.2.1),trivial⟩)
    clear hw
    go_wp2
    go_ret
    rw [HF.znr.1]
    exact ⟨rfl,HS.znr.bel⟩
   have HW:=znq (show znv alg n1=0∧True from ⟨hw,trivial⟩)
   rw [hw]
   clear hw
   by_cases h2:n2≤60
   rotate_left
   ·have d2:decide ((n2:Int)≤60)=false:=by simp;omega
    have HF:=znq (show r=false∧True from ⟨by rw [HR.znr.1];exact decide_eq_false (fun h=>h2 h.2.2.2.1),trivial⟩)
    clear h2
    go_wp2
    go_ret
    rw [HF.znr.1]
    exact ⟨rfl,HS.znr.bel⟩
   have d2:decide ((n2:Int)≤60)=true:=by simp;omega
   by_cases h3:i≤6
   rotate_left
   ·have d3:decide ((i:Int)≤6)=false:=by simp;omega
    have HF:=znq (show r=false∧True from ⟨by rw [HR.znr.1];exact decide_eq_false (fun h=>h3 h.2.2.2.2.1),trivial⟩)
    clear h3
    go_wp2
    go_ret
    rw [HF.znr.1]
    exact ⟨rfl,HS.znr.bel⟩
   have d3:decide ((i:Int)≤6)=true:=by simp;omega
   by_cases h5:n5≤200
   ·have d5:decide ((n5:Int)≤200)=true:=by simp;omega
    have HF:=znq (show r=true∧True from ⟨by rw [HR.znr.1];exact decide_eq_true ⟨HAL.znr,H1.znr,HW.znr.1,h2,h3,h5⟩,trivial⟩)
    clear h5
    go_wp2
    go_ret
    rw [HF.znr.1]
    exact ⟨rfl,HS.znr.bel⟩
   ·have d5:decide ((n5:Int)≤200)=false:=by simp;omega
    have HF:=znq (show r=false∧True from ⟨by rw [HR.znr.1];exact decide_eq_false (fun h=>h5 h.2.2.2.2.2),trivial⟩)
    clear h5
    go_wp2
    go_ret
    rw [HF.znr.1]
    exact ⟨rfl,HS.znr.bel⟩
theorem zoz (w:World) (hg:Globals w):Calls Tryz.prog 53 #[] w fun e w'=>∃ q p,e=.returned (.pointer (some ⟨q,0,none⟩))∧Tab w' q p∧(w.heap.size≤q∧w.heap.size≤p)∧Below w.heap.size w w':=by
 have HG:=znq hg
 clear hg
 go_enter Tryz.func53,Tryz.ntmps53
 go_wp2_with fail
 refine (zfs _).mono ?_
 rintro e w1 ⟨p,rfl,hp,hb,hbel⟩
 have HB:=znq hb
 have HL:=znq hbel
 have HP:=znq hp
 clear hb hbel hp
 go_wp2_with fail
 refine (new_ok p boxes _ kX HB.znr (HG.znr.below HL.znr)).mono ?_
 rintro e w2 ⟨q,rfl,hq,hb2,hbel2⟩
 have HT:=znq (show Tab w2 q p from ⟨HB.znr.below hbel2 HB.znr.lt,hb2⟩)
 have HQ:=znq (Nat.le_trans HL.znr.size hq)
 have HL:=znq (HL.znr.trans (hbel2.mono HL.znr.size))
 clear hbel2 hb2 hq
 go_wp2
 go_ret
 exact ⟨_,_,rfl,HT.znr,⟨HQ.znr,HP.znr⟩,HL.znr⟩
theorem zn4 (alg:Int) (a1:Option Addr) (n1 c1:Nat) (b1:List UInt8) (a2:Option Addr) (n2 c2:Nat) (t:Int) (a4:Option Addr) (N c4:Nat) (a5:Option Addr) (n5 c5:Nat) (w:World) (hb:b1.length=n1) (hw:znv alg n1=0) (hc:n1≤c1) (hl:zr w a1 (b1.map B)) (hg:Globals w) (hbg:qD w) :
  Calls Tryz.prog 17 #[.agg (znt alg a1 n1 c1 a2 n2 c2 t a4 N c4 a5 n5 c5).toArray] w fun e w'=>∃ cp,e=.returned (.tuple #[.pointer (some ⟨cp,0,none⟩),.bool true])∧Std w.heap.size [] w' (fun w''=>qu w'' cp (jy alg b1))∧Below w.heap.size w w':=by
 have HN:=znq hb
 have HW:=znq hw
 have HL:=znq hl
 have HG:=znq hg
 have HBG:=znq hbg
 have HS:=znq (St.start w)
 clear hb hw hl hg hbg
 go_enter Tryz.func17,Tryz.ntmps17
 go_wp2_with (refine zh 25 _ (znt alg a1 n1 c1 a2 n2 c2 t a4 N c4 a5 n5 c5) _ rfl rfl rfl rfl ?_)
 intro w1 hb hbel;have HS:=znq (HS.znr.push hb hbel);clear hb hbel
 have hc0:=fun (x:zG w1.drew)=>((HS.znr.get 0 rfl).drew.below x.later (HS.znr.get 0 rfl).drew.lt).cell 0 _ rfl
 have hc1:=fun (x:zG w1.drew)=>((HS.znr.get 0 rfl).drew.below x.later (HS.znr.get 0 rfl).drew.lt).cell 1 _ rfl
 go_wp2_with fail
 refine zn [1,2,3,4,0,5,6,7,8,9,10] (by kernel_rfl) (by kernel_rfl) ?_
 rintro w2 rfl
 refine mqR ?_
 clear hc0 hc1
 have HS:=znq HS.znr.drew
 refine zi rfl rfl (by rfl) (fun K hK=>?_)
 go_simp
 have hz2:=HS.znr.size
 refine (zoz _ (HG.znr.below HS.znr.bel)).mono ?_
 rintro e w2 ⟨q,p,rfl,ht,hqp,hbel⟩
 have HT:=znq ht
 have HQP:=znq (show w.heap.size≤q∧w.heap.size≤p from ⟨Nat.le_trans hz2 hqp.1,Nat.le_trans hz2 hqp.2⟩)
 clear hqp hz2
 have HS:=znq (HS.znr.later hbel)
 go_simp
 refine hK _ _ hbel ?_
 clear hK K hbel ht
 refine zi rfl rfl (by rfl) (fun K hK=>?_)
 go_simp
 refine (zgk alg q p a1 n1 c1 b1 _ HN.znr HW.znr hc (HL.znr.below HS.znr.bel) HT.znr (HBG.znr.below HS.znr.bel)).mono ?_
 rintro e w3 ⟨cp,rfl,hup,hbel⟩
 have HU:=znq hup
 have HZ2:=znq HS.znr.size
 have HS:=znq (HS.znr.later hbel)
 go_simp
 refine hK _ _ hbel ?_
 clear hK K hbel hup
 refine mqR ?_
 refine zo ?_
 go_wp2
 go_ret2
 exact ⟨cp,rfl,HU.znr.mono HZ2.znr (by simp;exact HQP.znr),HS.znr.bel⟩
theorem zo5 (alg:Int) (a1:Option Addr) (n1 c1:Nat) (a2:Option Addr) (n2 c2:Nat) (t:Int) (a4:Option Addr) (N c4:Nat) (a5:Option Addr) (n5 c5:Nat) (cv mv:Value) (w:World) (R:Ending→World→Prop)
  (h:∀ w',Below w.heap.size w w'→Calls Tryz.prog 54 #[cv,.int .i64 t,.slice a2 n2 c2,.slice a4 N c4,mv] w' fun e w''=>(∃ v c,e=.returned (.tuple #[v,.int .i64 c]))∧R e w'') :
  Calls Tryz.prog 18 #[.agg (znt alg a1 n1 c1 a2 n2 c2 t a4 N c4 a5 n5 c5).toArray,cv,mv] w R:=by
 have HH:=znq h
 clear h
 go_enter Tryz.func18,Tryz.ntmps18
 go_wp2_with (refine zh 25 _ (znt alg a1 n1 c1 a2 n2 c2 t a4 N c4 a5 n5 c5) _ rfl rfl rfl rfl ?_)
 intro w1 hb hbel
 have HB:=znq hbel
 have hx2:=hb.cell 2 _ rfl
 have hx3:=hb.cell 3 _ rfl
 have hx4:=hb.cell 4 _ rfl
 clear hb hbel
 go_wp2_with fail
 refine (HH.znr _ HB.znr).mono ?_
 rintro e w2 ⟨⟨v,c,rfl⟩,hr⟩
 have HR:=znq hr
 clear hr
 go_wp2
 exact HR.znr
theorem zp5 (alg:Int) (a1:Option Addr) (n1 c1:Nat) (a2:Option Addr) (n2 c2:Nat) (t:Int) (a4:Option Addr) (N c4:Nat) (a5:Option Addr) (n5 c5:Nat) (cv mv:Value) (w:World) (R:Ending→World→Prop)
  (h:∀ w',Below w.heap.size w w'→Calls Tryz.prog 55 #[cv,.int .i64 t,.slice a2 n2 c2,.slice a4 N c4,mv] w' fun e w''=>(∃ v c,e=.returned (.tuple #[v,.int .i64 c]))∧R e w'') :
  Calls Tryz.prog 19 #[.agg (znt alg a1 n1 c1 a2 n2 c2 t a4 N c4 a5 n5 c5).toArray,cv,mv] w R:=by
 have HH:=znq h
 clear h
 go_enter Tryz.func19,Tryz.ntmps19
 go_wp2_with (refine zh 25 _ (znt alg a1 n1 c1 a2 n2 c2 t a4 N c4 a5 n5 c5) _ rfl rfl rfl rfl ?_)
 intro w1 hb hbel
 have HB:=znq hbel
 have hx2:=hb.cell 2 _ rfl
 have hx3:=hb.cell 3 _ rfl
 have hx4:=hb.cell 4 _ rfl
 clear hb hbel
 go_wp2_with fail
 refine (HH.znr _ HB.znr).mono ?_
 rintro e w2 ⟨⟨v,c,rfl⟩,hr⟩
 have HR:=znq hr
 clear hr
 go_wp2
 exact HR.znr
theorem Out.form {w:World} {base:Nat} {o:Option (List UInt8)} {e:Ending} (h:Out w base o e):∃ v c,e=.returned (.tuple #[v,.int .i64 c]):=by
 cases o with
 | none=>exact ⟨_,_,h⟩
 | some m=>obtain ⟨ao,rfl,_⟩:=h;exact ⟨_,_,rfl⟩
theorem Out.le {w:World} {base b:Nat} {o:Option (List UInt8)} {e:Ending} (h:Out w base o e) (hb:b≤base):Out w b o e:=by
 cases o with
 | none=>exact h
 | some m =>
  obtain ⟨ao,he,hl,hg⟩:=h
  exact ⟨ao,he,hl,fun h0=>by obtain ⟨g,tl,h1,h2,h3⟩:=hg h0;exact ⟨g,tl,h1,Nat.le_trans hb h2,h3⟩⟩
theorem zqd (k:ku) {t:Nat} (nonce:List UInt8) (ad:List (List UInt8)) {b:List UInt8} (h:b.length < t):zoa k t nonce ad b=none:=by
 cases k with
 | aez p=>show zn9 p _ t b=none;unfold zn9;rw [if_pos h]
 | adi k=>show zoq _ _ t b=none;unfold zoq;rw [if_pos h]
 | hct k=>show zoq _ _ t b=none;unfold zoq;rw [if_pos h]
theorem zo6 {w:World} {cp:Nat} {k:ku} (h:qu w cp k):Ctx w cp k 16 none 0 0 [] none 0 0 [] :=
 ⟨h,by omega,rfl,by omega,by omega,zr.nil _ _,rfl,by omega,⟨zr.nil _ _,by simp⟩,by simp,by
  show (putsV (putsV _ _) _).length≤_
  rw [zn2,zn2]
  simp [rowOf,zK]⟩
theorem zn3 (w:World) (hg:Globals w) (hbg:qD w):Calls Tryz.prog 20 #[] w fun e w'=>e=.returned (.bool true)∧Below w.heap.size w w':=by
 have HG:=znq hg
 have HBG:=znq hbg
 have HS:=znq (St.start w)
 obtain ⟨k,hk⟩:∃ k,k=jy 1 (zf 32):=⟨_,rfl⟩
 have HK:=znq (show jy 1 (zf 32)=k∧k.Fit∧k.least=16 from ⟨hk.symm,by rw [hk];exact we _ _,by rw [hk];rfl⟩)
 have HRO:=znq (show k.room 16 1 from .inr (by rw [HK.znr.2.2];omega))
 obtain ⟨s,hs⟩:∃ s,s=zn1 k 16 [] [] [5]:=⟨_,rfl⟩
 have HSE:=znq (show zn1 k 16 [] [] [5]=s∧s.length=17∧zoa k 16 [] [] s=some [5] from ⟨hs.symm,by rw [hs,zob 16 [] [] (m:=[5]) HRO.znr];rfl,by rw [hs];exact zol HK.znr.2.1 16 [] [] HRO.znr⟩)
 clear hg hbg hk hs
 go_enter Tryz.func20,Tryz.ntmps20
 go_wp2_with fail
 refine yn [] [0] [2,3,4,5,6,7] [zH.make 1 11 5 ((zf 32).map B)] (by kernel_rfl) (by kernel_rfl) ?_
 rintro w1 rfl
 have HS:=znq HS.znr.drew
 refine yK ⟨?_,?_,Nat.le_refl _⟩
 ·intro f hf
  simp only [List.mem_singleton] at hf
  subst hf
  exact WA _ _ _ 22 _ _ rfl rfl rfl rfl (by simp) (fun w'=>Kt w')
 refine zC rfl rfl (fun uz wa hla K hK=>?_)
 go_simp
 have HS:=znq (HS.znr.later hla)
 refine (zoz _ (HG.znr.below HS.znr.bel)).mono ?_
 rintro e w2 ⟨q,p,rfl,ht,_,hbel⟩
 have HT:=znq ht
 have HS:=znq (HS.znr.later hbel)
 go_simp
 refine hK _ _ hbel ?_
 clear hK K hbel hla ht
 refine yZ (fun bx w3 hlb hbx hbn=>?_)
 go_simp
 have HS:=znq (HS.znr.later hlb)
 have HT:=znq (HT.znr.below hlb (Nat.le_refl _))
 have HLZ:=znq (show zr w3 (some ⟨bx,0,none⟩) ((zf 32).map B) from (show Blk w3 bx ((zf 32).map B) 5 from hbn).lies)
 clear hlb hbn
 refine zi rfl rfl (by rfl) (fun K hK=>?_)
 go_simp
 refine (zgk 1 q p (some ⟨bx,0,none⟩) 32 32 (zf 32) _ (zd 32) rfl (by omega) HLZ.znr HT.znr (HBG.znr.below HS.znr.bel)).mono ?_
 rintro e w4 ⟨cp,rfl,hst,hbel⟩
 rw [HK.znr.1] at hst
 have HC:=znq hst.self
 have HS:=znq (HS.znr.later hbel)
 go_simp
 refine hK _ _ hbel ?_
 clear hK K hbel hst HT HLZ hbx
 refine mqR ?_
 refine zo ?_
 go_wp2_with fail
 have hl5:=zD w4 (.cells #[.int .u8 5] 5)
 have HL5:=znq (show zr (w4.alloc (.cells #[.int .u8 5] 5)) (some ⟨w4.heap.size,0,none⟩) (([5]:List UInt8).map B) from (Blk.new w4 [.int .u8 5] 5).lies)
 have HC:=znq (show qu _ cp k from HC.znr.later hl5)
 have HS:=znq (HS.znr.later hl5)
 clear hl5
 generalize w4.alloc (.cells #[.int .u8 5] 5)=w5 at *
 refine (zpw (some ⟨w4.heap.size,0,none⟩) 1 1 [5] _ (zo6 HC.znr) rfl (by omega) (by omega) HL5.znr HRO.znr).mono ?_
 rintro e w6 ⟨v6,rfl,hown,hbel⟩
 rw [show rowOf []=[] from rfl,HSE.znr.1] at hown
 obtain ⟨a6,c6,rfl,hc6,_,hl6⟩:=zw hown
 have HL6:=znq hl6
 have HC:=znq (HC.znr.later hbel)
 have HS:=znq (HS.znr.later hbel)
 clear hown hl6 hbel HL5
 go_wp2_with fail
 refine (zo4 a6 17 c6 s _ (zo6 HC.znr) HSE.znr.2.1 (by omega) hc6 HL6.znr).mono ?_
 rintro e w7 ⟨ho,hbel⟩
 rw [show rowOf []=[] from rfl,HSE.znr.2.2] at ho
 obtain ⟨a7,rfl,hl7,_⟩:=ho
 obtain ⟨b7,o7,rfl,hc7⟩:=hl7 0 (B 5) rfl
 have HC:=znq (HC.znr.later hbel)
 have HS:=znq (HS.znr.later hbel)
 have hlt7:=block_lt_of_cell hc7
 clear hbel hl7 HL6
 go_wp2_with fail
 refine (zo4 none 0 0 [] _ (zo6 HC.znr) rfl (by omega) (by omega) (zr.nil _ _)).mono ?_
 rintro e w8 ⟨ho,hbel⟩
 rw [zqd k _ _ (by simp)] at ho
 obtain rfl:=ho
 have hc8:w8.cell? ⟨b7,o7,none⟩=some (B 5):=(hbel.cell (p:=⟨b7,o7+0,none⟩) hlt7).trans hc7
 have HS:=znq (HS.znr.later hbel)
 clear hbel hc7
 go_wp2
 go_ret
 exact ⟨rfl,HS.znr.bel⟩
end Go.Proofs.YtjaioajjfiaheaaGreatDoor
namespace Go.Proofs.YtjaioajjfiaheaaGreatDoor
open Go.RowKit Go.Mem Go.Ops Go.Cells Go.Oct Go.Gf Go.Trn Go.Aes Go.Ring Go.Ezk Go.Ezh Go.Ezt Go.Ezc Go.Aez Go.Blake Go.CutP Go.Fl Go.Adi Go.Hct Go.Wid
attribute [local irreducible] zE zN zO zM yu
theorem zoe {cp t n2 c2 N c4:Nat} {k:ku} {a2 a4:Option Addr} {b2:List UInt8} {ss:List Str} (alg:Int) (a1:Option Addr) (n1 c1:Nat) (a5:Option Addr) (n5 c5:Nat) (bo:Option Addr) (mn mc:Nat) (m:List UInt8) (w:World) (hc:Ctx w cp k t a2 n2 c2 b2 a4 N c4 ss) (hm:m.length=mn) (hmm:mn≤15000) (hmc:mn≤mc) (hlm:zr w bo (m.map B)) (hr:k.room t mn) :
  Calls Tryz.prog 18 #[.agg (znt alg a1 n1 c1 a2 n2 c2 t a4 N c4 a5 n5 c5).toArray,.pointer (some ⟨cp,0,none⟩),.slice bo mn mc] w fun e w'=>∃ v,e=.returned (.tuple #[v,.int .i64 0])∧w'.ownsRow w.heap.size 5 1 v (mn+t) ((zn1 k t b2 (rowOf ss) m).map B)∧Below w.heap.size w w' :=
 zo5 alg a1 n1 c1 a2 n2 c2 t a4 N c4 a5 n5 c5 _ _ w _ fun w' hb=>(zpw bo mn mc m w' (hc.later hb) hm hmm hmc (hlm.below hb) hr).mono fun e w'' ⟨v,he,hown,hbel⟩=>⟨⟨v,0,he⟩,v,he,yi hown hb.size,hb.trans (hbel.mono hb.size)⟩
theorem zo7 {cp t n2 c2 N c4:Nat} {k:ku} {a2 a4:Option Addr} {b2:List UInt8} {ss:List Str} (alg:Int) (a1:Option Addr) (n1 c1:Nat) (a5:Option Addr) (n5 c5:Nat) (bo:Option Addr) (mn mc:Nat) (m:List UInt8) (w:World) (hc:Ctx w cp k t a2 n2 c2 b2 a4 N c4 ss) (h3:k.alg≠3) (hm:m.length=mn) (hmm:mn≤15000) (hmc:mn≤mc) (hlm:zr w bo (m.map B)) (hr:mn+t < k.least) :
  Calls Tryz.prog 18 #[.agg (znt alg a1 n1 c1 a2 n2 c2 t a4 N c4 a5 n5 c5).toArray,.pointer (some ⟨cp,0,none⟩),.slice bo mn mc] w fun e w'=>e=.returned (.tuple #[.slice none 0 0,.int .i64 7])∧Below w.heap.size w w' :=
 zo5 alg a1 n1 c1 a2 n2 c2 t a4 N c4 a5 n5 c5 _ _ w _ fun w' hb=>(zpt bo mn mc m w' (hc.later hb) h3 hm hmm hmc (hlm.below hb) hr).mono fun e w'' ⟨he,hbel⟩=>⟨⟨_,7,he⟩,he,hb.trans (hbel.mono hb.size)⟩
theorem zon {cp t n2 c2 N c4:Nat} {k:ku} {a2 a4:Option Addr} {b2:List UInt8} {ss:List Str} (alg:Int) (a1:Option Addr) (n1 c1:Nat) (a5:Option Addr) (n5 c5:Nat) (bo:Option Addr) (bn bc:Nat) (b:List UInt8) (w:World) (hc:Ctx w cp k t a2 n2 c2 b2 a4 N c4 ss) (hb:b.length=bn) (hbm:bn≤15000) (hbc:bn≤bc) (hlb:zr w bo (b.map B)) :
  Calls Tryz.prog 19 #[.agg (znt alg a1 n1 c1 a2 n2 c2 t a4 N c4 a5 n5 c5).toArray,.pointer (some ⟨cp,0,none⟩),.slice bo bn bc] w fun e w'=>Out w' w.heap.size (zoa k t b2 (rowOf ss) b) e∧Below w.heap.size w w' :=
 zp5 alg a1 n1 c1 a2 n2 c2 t a4 N c4 a5 n5 c5 _ _ w _ fun w' hw=>(zo4 bo bn bc b w' (hc.later hw) hb hbm hbc (hlb.below hw)).mono fun e w'' ⟨ho,hbel⟩=>⟨ho.form,ho.le hw.size,hw.trans (hbel.mono hw.size)⟩
theorem zpx:∀ ss:List Str,(∀ s∈ss,s.bs.length≤60)→((rowOf ss).map fun b=>8+b.length).sum≤68*ss.length
 | [],_=>by simp [rowOf]
 | s::r,h=>by
  have ih:=zpx r (fun x hx=>h x (List.mem_cons_of_mem _ hx))
  have:=h s (by simp)
  simp only [rowOf,List.map_cons,List.sum_cons,List.length_cons] at ih ⊢
  omega
theorem zpy {w:World} {cp:Nat} {k:ku} {alg:Int} {n1 t n2 c2 N c4 n5:Nat} {a2 a4:Option Addr} {b2:List UInt8} {ss:List Str} (hr:zn0 alg n1 n2 N n5 ss=true) (ht:t≤16) (hk:qu w cp k) (hb2:b2.length=n2) (hc2:n2≤c2) (hl2:zr w a2 (b2.map B)) (hN:ss.length=N) (hs:xY w a4 ss):Ctx w cp k t a2 n2 c2 b2 a4 N c4 ss:=by
 obtain ⟨h1,h2,h3,h4,h5,h6⟩:=of_decide_eq_true hr
 refine ⟨hk,ht,hb2,by omega,hc2,hl2,hN,by omega,hs,fun s hs=>Nat.le_trans (h1 s hs) (by omega),?_⟩
 have:=zpx ss h1
 show (putsV (putsV _ _) _).length≤_
 rw [zn2,zn2]
 simp only [List.length_cons,zK,List.map_cons,List.map_nil,List.sum_cons,List.sum_nil]
 omega
end Go.Proofs.YtjaioajjfiaheaaGreatDoor

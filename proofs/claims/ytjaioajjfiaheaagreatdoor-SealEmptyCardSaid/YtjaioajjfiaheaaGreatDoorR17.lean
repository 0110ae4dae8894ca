/-
  Texts of this claim, one behind the other.
-/
import Derived.Test.YtjaioajjfiaheaaGreatDoorR1
import Derived.Test.YtjaioajjfiaheaaGreatDoorR16
import Derived.Test.YtjaioajjfiaheaaGreatDoorR9
import Derived.Test.YtjaioajjfiaheaaGreatDoorR11
import Derived.Test.YtjaioajjfiaheaaGreatDoorR15
import Derived.Lib.Hide
set_option linter.unusedVariables false
set_option linter.unusedSimpArgs false
set_option maxHeartbeats 16000000
set_option maxRecDepth 100000
namespace Go.Cells
open Go.RowKit
theorem Yv {P:Program} {w:World} {o:Oper} {a:Act} {K:Act→World→Prop} {Q:Exit→Act→World→Prop} (t:TypeId) (vs:List Value) (z:Value)
  (ho:o.op=.alloc t) (hz:(P.info? t).map (·.zero)=some (some z)) (hv:z.cells=vs.toArray)
  (k:∀ w',Blk w' w.heap.size vs t→Below w.heap.size w w'→K (a.put o.dst (.pointer (some ⟨w.heap.size,0,none⟩))) w'):o.wp P a w K Q:=by
 have hk:=k (w.alloc (.cells vs.toArray t)) (Blk.new w vs t) (zD w _)
 cases hq:P.info? t with
 | none=>rw [hq] at hz;cases hz
 | some x =>
  rw [hq] at hz
  have hx:x.zero=some z:=by simpa using hz
  unfold Oper.wp
  simp [execOp,ho,Instr.alloc,zeroValue,typeInfo,hq,hx,newVar,newRow,hv]
  exact hk
end Go.Cells
namespace Go.Proofs.YtjaioajjfiaheaaGreatDoor
open Go.RowKit Go.Mem Go.Ops Go.Cells Go.Oct Go.Gf Go.Trn Go.Aes Go.Ring Go.Ezk Go.Ezh Go.Ezt Go.Ezc Go.CutP Go.Fl
attribute [local irreducible] zE zN zO zM yu
structure BI (D:Nat→Bool) (base:Nat) (w:World) (v10 v11 v31 v32 v40 v41:Value) (a b E Y U:List UInt8):Prop where
 r7:D 7=true→∃ n,v31=.slice (some ⟨n,0,none⟩) 2 2∧yB 16 w (some ⟨n,0,none⟩) [a,E]
 r16:D 16=true→∃ n,v40=.slice (some ⟨n,0,none⟩) 2 2∧yB 16 w (some ⟨n,0,none⟩) [b,E]
 r8:D 8=true→v32=.agg (Y.map B).toArray
 r17:D 17=true→v41=.agg (U.map B).toArray
 r18:D 18=true→∃ n,v10=.pointer (some ⟨n,0,none⟩)∧base≤n∧Blk w n ((zf 16).map B) 117
 r19:D 19=true→∃ n,v11=.pointer (some ⟨n,0,none⟩)∧base≤n∧Blk w n ((zf 16).map B) 117
 ne:D 18=true→D 19=true→v10≠v11
section
variable {D:Nat→Bool} {base:Nat} {w w':World} {v10 v11 v31 v32 v40 v41:Value} {a b E Y U:List UInt8}
theorem BI.nought (v10 v11 v31 v32 v40 v41:Value):BI (fun _=>false) base w v10 v11 v31 v32 v40 v41 a b E Y U :=
 ⟨fun h=>(by cases h),fun h=>(by cases h),fun h=>(by cases h),fun h=>(by cases h),fun h=>(by cases h),fun h=>(by cases h),fun h=>(by cases h)⟩
theorem BI.later (h:BI D base w v10 v11 v31 v32 v40 v41 a b E Y U) (hb:Below w.heap.size w w'):BI D base w' v10 v11 v31 v32 v40 v41 a b E Y U :=
 ⟨fun x=>by obtain ⟨n,e,r⟩:=h.r7 x;exact ⟨n,e,r.below hb⟩,fun x=>by obtain ⟨n,e,r⟩:=h.r16 x;exact ⟨n,e,r.below hb⟩,h.r8,h.r17,
  fun x=>by obtain ⟨n,e,r,s⟩:=h.r18 x;exact ⟨n,e,r,s.below hb s.lt⟩,fun x=>by obtain ⟨n,e,r,s⟩:=h.r19 x;exact ⟨n,e,r,s.below hb s.lt⟩,h.ne⟩
theorem BI.s7 (h:BI D base w v10 v11 v31 v32 v40 v41 a b E Y U) {n:Nat} (hr:yB 16 w (some ⟨n,0,none⟩) [a,E]):BI (fun j=>D j || j==7) base w v10 v11 (.slice (some ⟨n,0,none⟩) 2 2) v32 v40 v41 a b E Y U :=
 ⟨fun _=>⟨n,rfl,hr⟩,fun x=>h.r16 (by simpa using x),fun x=>h.r8 (by simpa using x),fun x=>h.r17 (by simpa using x),fun x=>h.r18 (by simpa using x),fun x=>h.r19 (by simpa using x),fun x y=>h.ne (by simpa using x) (by simpa using y)⟩
theorem BI.s16 (h:BI D base w v10 v11 v31 v32 v40 v41 a b E Y U) {n:Nat} (hr:yB 16 w (some ⟨n,0,none⟩) [b,E]):BI (fun j=>D j || j==16) base w v10 v11 v31 v32 (.slice (some ⟨n,0,none⟩) 2 2) v41 a b E Y U :=
 ⟨fun x=>h.r7 (by simpa using x),fun _=>⟨n,rfl,hr⟩,fun x=>h.r8 (by simpa using x),fun x=>h.r17 (by simpa using x),fun x=>h.r18 (by simpa using x),fun x=>h.r19 (by simpa using x),fun x y=>h.ne (by simpa using x) (by simpa using y)⟩
theorem BI.s8 (h:BI D base w v10 v11 v31 v32 v40 v41 a b E Y U):BI (fun j=>D j || j==8) base w v10 v11 v31 (.agg (Y.map B).toArray) v40 v41 a b E Y U :=
 ⟨fun x=>h.r7 (by simpa using x),fun x=>h.r16 (by simpa using x),fun _=>rfl,fun x=>h.r17 (by simpa using x),fun x=>h.r18 (by simpa using x),fun x=>h.r19 (by simpa using x),fun x y=>h.ne (by simpa using x) (by simpa using y)⟩
theorem BI.s17 (h:BI D base w v10 v11 v31 v32 v40 v41 a b E Y U):BI (fun j=>D j || j==17) base w v10 v11 v31 v32 v40 (.agg (U.map B).toArray) a b E Y U :=
 ⟨fun x=>h.r7 (by simpa using x),fun x=>h.r16 (by simpa using x),fun x=>h.r8 (by simpa using x),fun _=>rfl,fun x=>h.r18 (by simpa using x),fun x=>h.r19 (by simpa using x),fun x y=>h.ne (by simpa using x) (by simpa using y)⟩
theorem BI.s18 (h:BI D base w v10 v11 v31 v32 v40 v41 a b E Y U) (hB:base≤w.heap.size) (hbl:Blk w' w.heap.size ((zf 16).map B) 117) (hb:Below w.heap.size w w'):BI (fun j=>D j || j==18) base w' (.pointer (some ⟨w.heap.size,0,none⟩)) v11 v31 v32 v40 v41 a b E Y U:=by
 have h':=h.later hb
 refine ⟨fun x=>h'.r7 (by simpa using x),fun x=>h'.r16 (by simpa using x),fun x=>h'.r8 (by simpa using x),fun x=>h'.r17 (by simpa using x),fun _=>⟨_,rfl,hB,hbl⟩,fun x=>h'.r19 (by simpa using x),fun _ y=>?_⟩
 obtain ⟨n,e,_,s⟩:=h.r19 (by simpa using y)
 rw [e]
 intro hh
 have:=s.lt
 simp at hh
 try omega
theorem BI.s19 (h:BI D base w v10 v11 v31 v32 v40 v41 a b E Y U) (hB:base≤w.heap.size) (hbl:Blk w' w.heap.size ((zf 16).map B) 117) (hb:Below w.heap.size w w'):BI (fun j=>D j || j==19) base w' v10 (.pointer (some ⟨w.heap.size,0,none⟩)) v31 v32 v40 v41 a b E Y U:=by
 have h':=h.later hb
 refine ⟨fun x=>h'.r7 (by simpa using x),fun x=>h'.r16 (by simpa using x),fun x=>h'.r8 (by simpa using x),fun x=>h'.r17 (by simpa using x),fun x=>h'.r18 (by simpa using x),fun _=>⟨_,rfl,hB,hbl⟩,fun x _=>?_⟩
 obtain ⟨n,e,_,s⟩:=h.r18 (by simpa using x)
 rw [e]
 intro hh
 have:=s.lt
 simp at hh
 try omega
end
theorem Qh (k:zv) (z:List UInt8):∀ (ps:y9) (n:Nat) (p:List UInt8×List UInt8),z6 k z n (ps++[p])=z6 k z n ps++[(vm k z (n+ps.length) p,qS k z (n+ps.length) p)]
 | [],n,p=>by simp [z6]
 | q::ps,n,p=>by
  simp only [List.cons_append,z6,Qh k z ps (n+1) p,List.length_cons]
  rw [show n+1+ps.length=n+(ps.length+1) by omega]
theorem zhc (kp q p:Nat) (k:zv) (pb np cp:Nat) (ps:y9) (tl:List Value) (uv vv:Value) (x y z:List UInt8) (w:World) (hk:xH w kp q p k) (hnp:ps.length=np) (hf:∀ r∈ps,xO r) (hz:z.length=16)
  (hp:Blk w pb ((zV ps).map B++tl) 212) (hb:np≤900) :
  Calls Tryz.prog 126 #[.agg (z4 (.slice (some ⟨pb,0,none⟩) np cp) uv vv x y).toArray,.pointer (some ⟨kp,0,none⟩),.agg (z.map B).toArray] w fun e w'=>e=.returned (.agg ((xN k z 0 (zf 16) ps).map B).toArray)∧Blk w' pb ((zV (z6 k z 0 ps)).map B++tl) 212∧zI pb w w':=by
 have n1:kp≠pb:=hk.blk.ne' hp (by decide)
 have n2:q≠pb:=hk.tab.tab.ne' hp (by decide)
 have n3:p≠pb:=hk.tab.boxes.ne' hp (by decide)
 have HK:=znq hk
 have HNP:=znq hnp
 have HF:=znq hf
 have HZ:=znq hz
 have HZM:=znq (show (z.map B).length=16 by rw [List.length_map];exact hz)
 have hpb:=hp.lt
 have HS:=znq ((Su.start pb w).add hp)
 obtain ⟨V,hV⟩:∃ V,V=z4 (.slice (some ⟨pb,0,none⟩) np cp) uv vv x y:=⟨_,rfl⟩
 have HVV:=znq (show V=z4 (.slice (some ⟨pb,0,none⟩) np cp) uv vv x y∧True from ⟨hV,trivial⟩)
 obtain ⟨S,hS⟩:∃ S,S=xN k z 0 (zf 16) ps:=⟨_,rfl⟩
 have HSS:=znq (show xN k z 0 (zf 16) ps=S∧True from ⟨hS.symm,trivial⟩)
 rw [← hV,← hS]
 clear hk hnp hf hp hV hS hz
 go_enter Tryz.func126,Tryz.ntmps126
 go_wp2_with (refine zh 181 _ (V) _ rfl rfl rfl rfl ?_)
 intro w1 hb hbel;have HS:=znq (HS.znr.push hb hbel);have hlt1:=hb.lt;clear hb hbel
 go_wp2_with (refine zh 117 _ (z.map B) _ rfl rfl rfl rfl ?_)
 intro w2 hb hbel;have HS:=znq (HS.znr.push hb hbel);have hlt2:=hb.lt;clear hb hbel
 go_wp2_with (refine ze 117 ((zf 16).map B) _ rfl rfl zj rfl ?_)
 intro w3 hb hbel;have HS:=znq (HS.znr.push hb hbel);have hlt3:=hb.lt;clear hb hbel
 go_wp2_with (refine ze 117 ((zf 16).map B) _ rfl rfl zj rfl ?_)
 intro w4 hb hbel;have HS:=znq (HS.znr.push hb hbel);have hlt4:=hb.lt;clear hb hbel
 generalize hbb:w.heap.size=bb at *
 generalize w1.heap.size=bw1 at *
 generalize w2.heap.size=bw2 at *
 generalize w3.heap.size=bw3 at *
 have HBB:=znq hbb
 clear hbb
 have hc0:=(HS.znr.get 3 rfl).cell 0 (.slice (some ⟨pb,0,none⟩) np cp) (by rw [HVV.znr.1];rfl)
 go_wp2
 go_loopw [16] (fun c wr=>∃ (i:Nat) (sum:List UInt8),i≤np∧c=.int .i64 i∧Hid (sum.length=16)∧Hid (xN k z i sum (ps.drop i)=S∧True)∧Hid (Su w pb wr [(bw3,sum.map B,117),(bw2,(zf 16).map B,117),(bw1,z.map B,117),(bb,V,181),(pb,(zV (z6 k z 0 (ps.take i)++ps.drop i)).map B++tl,212)])) (fun c _=>np - (intOf c).toNat)
 case atStart=>exact ⟨0,zf 16,by omega,rfl,znq (zd 16),HSS,HS⟩
 case round =>
  clear HS hc0
  obtain ⟨i,sum,hi,rfl,HX,HE,HS⟩:=hrel
  have HXM:=znq (show (sum.map B).length=16 by rw [List.length_map];exact HX.znr)
  have hr2:=(HS.znr.get 0 rfl).lt
  by_cases hlt:i < np
  ·obtain ⟨⟨a,b⟩,hpi⟩:∃ r,ps[i]? = some r:=⟨ps[i]'(by rw [HNP.znr];exact hlt),by simp⟩
   have hd:=zf1 hpi
   have hab:=HF.znr _ (List.mem_of_getElem? hpi)
   have HA:=znq (show a.length=16 from hab.1)
   have HB:=znq (show b.length=16 from hab.2)
   have HAM:=znq (show (a.map B).length=16 by rw [List.length_map];exact hab.1)
   have HBM:=znq (show (b.map B).length=16 by rw [List.length_map];exact hab.2)
   have hAl:(zV (z6 k z 0 (ps.take i))).length=i*32:=by
    rw [vn _ (wy k z _ _),qm,List.length_take,HNP.znr];omega
   have hn1:zV (z6 k z 0 (ps.take (i+1))++ps.drop (i+1))=zV (z6 k z 0 (ps.take i))++(vm k z i (a,b)++qS k z i (a,b))++zV (ps.drop (i+1)):=by
    rw [XE hpi,Qh,List.length_take,HNP.znr,show 0+min i np=i by omega,jc,vR]
   have he:=HE.znr.1
   rw [hd] at he
   have HE:=znq (show xN k z (i+1) (plusB [sum,yOf k z i (a,b)]) (ps.drop (i+1))=S∧True from ⟨he,trivial⟩)
   have hs:=HS.znr
   rw [hd,jc,show zV ((a,b)::ps.drop (i+1))=a++b++zV (ps.drop (i+1)) from rfl,← List.append_assoc] at hs
   have HN1:=znq (And.intro hn1 trivial)
   obtain ⟨A,hA⟩:∃ A,A=zV (z6 k z 0 (ps.take i)):=⟨_,rfl⟩
   obtain ⟨R,hR⟩:∃ R,R=zV (ps.drop (i+1)):=⟨_,rfl⟩
   rw [← hA,← hR] at hs HN1
   rw [← hA] at hAl
   have HAL:=znq hAl
   have HS:=znq (show Su w pb wr [(bw3,sum.map B,117),(bw2,(zf 16).map B,117),(bw1,z.map B,117),(bb,V,181),(pb,wj A (a++b) R tl,212)] from hs)
   clear hpi hd hab hAl hn1 he hs hA hR
   obtain ⟨i1,hi1⟩:∃ i1,i1=i+1:=⟨_,rfl⟩
   have hni:(i:Int)+1=(i1:Int):=by omega
   have hi9:i1≤1000:=by omega
   have HI1:=znq (show i1=i+1∧True from ⟨hi1,trivial⟩)
   -- the names of what comes up
   obtain ⟨E,hE⟩:∃ E,E=eBlk k 2 i1 z:=⟨_,rfl⟩
   obtain ⟨Y,hY⟩:∃ Y,Y=yOf k z i (a,b):=⟨_,rfl⟩
   obtain ⟨U,hU⟩:∃ U,U=vOf k z i (a,b):=⟨_,rfl⟩
   obtain ⟨C,hC⟩:∃ C,C=qS k z i (a,b):=⟨_,rfl⟩
   obtain ⟨F,hF⟩:∃ F,F=vm k z i (a,b):=⟨_,rfl⟩
   have HEE:=znq (show eBlk k 2 i1 z=E∧True from ⟨hE.symm,trivial⟩)
   have HY1:=znq (show plusB [a,E]=Y∧True from ⟨by rw [hY,hE,hi1];rfl,trivial⟩)
   have HU1:=znq (show plusB [b,E]=U∧True from ⟨by rw [hU,hE,hi1];rfl,trivial⟩)
   have HC1:=znq (show plusB [Y,eBlk k 0 0 U]=C∧True from ⟨by rw [hC,hY,hU];rfl,trivial⟩)
   have HF1:=znq (show plusB [U,eBlk k 1 i1 C]=F∧True from ⟨by rw [hF,hC,hU,hi1];rfl,trivial⟩)
   have HEL:=znq (show E.length=16 by rw [hE];exact yo _ _ _ _)
   have HYL:=znq (show Y.length=16 by rw [hY];exact Xx _ _ _ _)
   have HUL:=znq (show U.length=16 by rw [hU];exact Xy _ _ _ _)
   have HCL:=znq (show C.length=16 by rw [hC];exact Z3 _ _ _ _)
   have HFL:=znq (show F.length=16 by rw [hF];exact Yq _ _ _ _)
   rw [← hY] at HE
   rw [← hF,← hC] at HN1
   clear hi1 hE hY hU hC hF
   have HEM:=znq (show (E.map B).length=16 by rw [List.length_map];exact HEL.znr)
   have HYM:=znq (show (Y.map B).length=16 by rw [List.length_map];exact HYL.znr)
   have HUM:=znq (show (U.map B).length=16 by rw [List.length_map];exact HUL.znr)
   have HCM:=znq (show (C.map B).length=16 by rw [List.length_map];exact HCL.znr)
   have HFM:=znq (show (F.map B).length=16 by rw [List.length_map];exact HFL.znr)
   go_wp2_with (refine (HS.znr.get 2 rfl).wload rfl rfl rfl zc HZM.znr ?_)
   go_wp2_with fail
   refine (YZ kp q p 2 i1 k z _ (HK.znr.onlyB HS.znr.only n1 n2 n3) (by omega) hi9 HZ.znr).mono ?_
   rintro e w5 ⟨rfl,hbel⟩
   rw [HEE.znr.1]
   have HS:=znq (HS.znr.later hbel)
   have hz5:=hbel.size
   clear hbel
   go_wp2_with (refine ze 117 ((zf 16).map B) _ rfl rfl zj rfl ?_)
   intro w6 hb hbel;have HS:=znq (HS.znr.push hb hbel);have hlt6:=hb.lt;clear hb hbel
   go_wp2_with (refine (HS.znr.get 0 rfl).wstore rfl rfl rfl rfl zc (by rw [List.length_map];exact zd 16) HEM.znr (zg _) ?_)
   intro w7 hb7 ho7
   have HS:=znq (show Su w pb w7 [(w5.heap.size,E.map B,117),(bw3,sum.map B,117),(bw2,(zf 16).map B,117),(bw1,z.map B,117),(bb,V,181),(pb,wj A (a++b) R tl,212)] from HS.znr.change 0 hb7 ho7 (.inl (by have:=HBB.znr;omega)) (by simp;omega))
   clear hb7 ho7
   generalize w5.heap.size=be at *
   have hr7:=(HS.znr.get 0 rfl).lt
   have hc0:=fun (z:zG w7.drew)=>((HS.znr.drew.later z.later).get 4 rfl).cell 0 (.slice (some ⟨pb,0,none⟩) np cp) (by rw [HVV.znr.1];rfl)
   go_wp2_with fail
   refine zcg [0,1,2,3,4,5,6,9,10,11,12,13,14,15] [7,8,16,17,18,19] [20,21] [(8,[7]),(17,[8,16])] (fun D x wx=>∃ v10 v11 v31 v32 v40 v41,x={ tmps:=#[.agg V.toArray,.pointer (some ⟨kp,0,none⟩),.agg (z.map B).toArray,.pointer (some ⟨bb,0,none⟩),undef,.pointer (some ⟨bw1,0,none⟩),.pointer (some ⟨bw2,0,none⟩),.pointer (some ⟨bw3,0,none⟩),.int .i64 i,.pointer (some ⟨be,0,none⟩),v10,v11,u12,.pointer (some ⟨bb,0,none⟩),.slice (some ⟨pb,0,none⟩) np cp,.int .i64 np,.int .i64 i,.bool true,.int .i64 i,.pointer (some ⟨kp,0,none⟩),.int .i64 i,.int .i64 i1,.agg (z.map B).toArray,.agg (E.map B).toArray,.pointer (some ⟨bb,0,none⟩),.slice (some ⟨pb,0,none⟩) np cp,.int .i64 i,.pointer (some ⟨pb,i*32,none⟩),.pointer (some ⟨pb,i*32,none⟩),.agg (a.map B).toArray,.agg (E.map B).toArray,v31,v32,.pointer (some ⟨bb,0,none⟩),.slice (some ⟨pb,0,none⟩) np cp,.int .i64 i,.pointer (some ⟨pb,i*32,none⟩),.pointer (some ⟨pb,i*32+16,none⟩),.agg (b.map B).toArray,.agg (E.map B).toArray,v40,v41,u42,u43,u44,u45,u46,u47,u48,u49,u50,u51,u52,u53,u54,u55,u56,u57,u58,u59,u60,u61,u62,u63,u64,u65,u66,undef],defers:=[] }∧Hid (Su w pb wx [(be,E.map B,117),(bw3,sum.map B,117),(bw2,(zf 16).map B,117),(bw1,z.map B,117),(bb,V,181),(pb,wj A (a++b) R tl,212)])∧w7.heap.size≤wx.heap.size∧Hid (BI D w7.heap.size wx v10 v11 v31 v32 v40 v41 a b E Y U)) (by kernel_rfl) (by kernel_rfl) ?_ ?_ ?_
   ·rintro w8 rfl
    have HS:=znq HS.znr.drew
    iterate 5 refine m10 ?_
    refine zL (Blk.rangeIn (HS.znr.get 5 rfl) (i*32) 16 _ (by exact Wk HAL.znr HA.znr)) (HS.znr.get 5 rfl).lt zc HAM.znr rfl rfl rfl (fun K hK=>?_)
    go_simp;refine hK _ ?_;clear hK K
    refine zL (HS.znr.get 0 rfl).range (HS.znr.get 0 rfl).lt zc HEM.znr rfl rfl rfl (fun K hK=>?_)
    go_simp;refine hK _ ?_;clear hK K
    iterate 5 refine m10 ?_
    refine zL (Blk.rangeIn (HS.znr.get 5 rfl) (i*32+16) 16 _ (by exact XG HAL.znr HA.znr HB.znr)) (HS.znr.get 5 rfl).lt zc HBM.znr rfl rfl rfl (fun K hK=>?_)
    go_simp;refine hK _ ?_;clear hK K
    refine zL (HS.znr.get 0 rfl).range (HS.znr.get 0 rfl).lt zc HEM.znr rfl rfl rfl (fun K hK=>?_)
    go_simp;refine hK _ ?_;clear hK K
    refine yK ⟨_,_,_,_,_,_,rfl,HS,Nat.le_refl _,BI.nought _ _ _ _ _ _⟩
   ·clear hc0
    rintro D x wx kk hkM hDk hneed ⟨v10,v11,v31,v32,v40,v41,rfl,HS,hsz,HBI⟩
    simp only [List.mem_cons,List.not_mem_nil,or_false] at hkM
    rcases hkM with rfl | rfl | rfl | rfl | rfl | rfl
    ·refine yc rfl rfl (fun K hK=>?_)
     refine y8 171 117 16 2 _ [a.map B,E.map B] rfl rfl Tryz.underlying171 zF rfl (by omega) rfl (by omega) (by omega) (by simp [HA.znr,HEL.znr]) (fun w' hb hbel=>hK _ _ ?_)
     exact ⟨fun _=>hbel,v10,v11,.slice (some ⟨wx.heap.size,0,none⟩) 2 2,v32,v40,v41,rfl,HS.znr.later hbel,Nat.le_trans hsz hbel.size,(HBI.znr.later hbel).s7 ⟨by simp [HA.znr,HEL.znr],by have:=hb.lies;simpa using this⟩⟩
    ·obtain ⟨n,rfl,hr⟩:=HBI.znr.r7 (hneed 7 (by simp [yE]))
     refine yc rfl rfl (fun K hK=>?_)
     go_simp
     refine (yN (some ⟨n,0,none⟩) 2 2 [a,E] _ rfl (by omega) hr).mono ?_
     rintro e w' ⟨rfl,hbel⟩
     rw [HY1.znr.1]
     go_simp
     refine hK _ _ ?_
     exact ⟨fun _=>hbel,v10,v11,_,.agg (Y.map B).toArray,v40,v41,rfl,HS.znr.later hbel,Nat.le_trans hsz hbel.size,(HBI.znr.later hbel).s8⟩
    ·refine yc rfl rfl (fun K hK=>?_)
     refine y8 171 117 16 2 _ [b.map B,E.map B] rfl rfl Tryz.underlying171 zF rfl (by omega) rfl (by omega) (by omega) (by simp [HB.znr,HEL.znr]) (fun w' hb hbel=>hK _ _ ?_)
     exact ⟨fun _=>hbel,v10,v11,v31,v32,.slice (some ⟨wx.heap.size,0,none⟩) 2 2,v41,rfl,HS.znr.later hbel,Nat.le_trans hsz hbel.size,(HBI.znr.later hbel).s16 ⟨by simp [HB.znr,HEL.znr],by have:=hb.lies;simpa using this⟩⟩
    ·obtain ⟨n,rfl,hr⟩:=HBI.znr.r16 (hneed 16 (by simp [yE]))
     refine yc rfl rfl (fun K hK=>?_)
     go_simp
     refine (yN (some ⟨n,0,none⟩) 2 2 [b,E] _ rfl (by omega) hr).mono ?_
     rintro e w' ⟨rfl,hbel⟩
     rw [HU1.znr.1]
     go_simp
     refine hK _ _ ?_
     exact ⟨fun _=>hbel,v10,v11,v31,v32,_,.agg (U.map B).toArray,rfl,HS.znr.later hbel,Nat.le_trans hsz hbel.size,(HBI.znr.later hbel).s17⟩
    ·refine yc rfl rfl (fun K hK=>?_)
     refine Yv 117 ((zf 16).map B) _ rfl zj rfl (fun w' hb hbel=>hK _ _ ?_)
     exact ⟨fun _=>hbel,.pointer (some ⟨wx.heap.size,0,none⟩),v11,v31,v32,v40,v41,rfl,HS.znr.later hbel,Nat.le_trans hsz hbel.size,HBI.znr.s18 hsz hb hbel⟩
    ·refine yc rfl rfl (fun K hK=>?_)
     refine Yv 117 ((zf 16).map B) _ rfl zj rfl (fun w' hb hbel=>hK _ _ ?_)
     exact ⟨fun _=>hbel,v10,.pointer (some ⟨wx.heap.size,0,none⟩),v31,v32,v40,v41,rfl,HS.znr.later hbel,Nat.le_trans hsz hbel.size,HBI.znr.s19 hsz hb hbel⟩
   ·clear hc0
    rintro x wx ⟨v10,v11,v31,v32,v40,v41,rfl,HS,hsz,HBI⟩
    obtain ⟨n,rfl,hn1,hn2⟩:=HBI.znr.r18 rfl
    obtain ⟨m,rfl,hm1,hm2⟩:=HBI.znr.r19 rfl
    obtain rfl:=HBI.znr.r8 rfl
    obtain rfl:=HBI.znr.r17 rfl
    have hnm:n≠m:=fun e=>HBI.znr.ne rfl rfl (by rw [e])
    have HS:=znq ((HS.znr.add hn2).add hm2)
    clear HBI hn2 hm2
    refine zp rfl rfl (by rfl) (fun K hK=>?_)
    refine (HS.znr.get 1 rfl).opstore rfl rfl rfl zc (by simp [zd]) HYM.znr (zg _) (fun w9 hb ho=>hK _ _ ?_)
    clear hK K
    have HS:=znq (show Su w pb w9 ([(m,(zf 16).map B,117),(n,(zf 16).map B,117),(be,E.map B,117),(bw3,sum.map B,117),(bw2,(zf 16).map B,117),(bw1,z.map B,117),(bb,V,181),(pb,wj A (a++b) R tl,212)].set 1 (n,Y.map B,117)) from HS.znr.change 1 hb ho (.inl (by have:=HBB.znr;omega)) (by simp;omega))
    clear hb ho
    go_simp
    refine zp rfl rfl (by rfl) (fun K hK=>?_)
    refine (HS.znr.get 0 rfl).opstore rfl rfl rfl zc (by simp [zd]) HUM.znr (zg _) (fun w10 hb ho=>hK _ _ ?_)
    clear hK K
    have HS:=znq (show Su w pb w10 ([(m,(zf 16).map B,117),(n,Y.map B,117),(be,E.map B,117),(bw3,sum.map B,117),(bw2,(zf 16).map B,117),(bw1,z.map B,117),(bb,V,181),(pb,wj A (a++b) R tl,212)].set 0 (m,U.map B,117)) from HS.znr.change 0 hb ho (.inl (by have:=HBB.znr;omega)) (by simp;omega))
    clear hb ho
    go_simp
    refine zo ?_
    have hn9:=(HS.znr.get 1 rfl).lt
    have hm9:=(HS.znr.get 0 rfl).lt
    have HNE:=znq HS.znr.ne
    have hps:=HS.znr.size
    go_wp2_with fail
    refine yn [0,1,2] [3,4,5] [7] [zH.var 6 12 117 ((zf 16).map B)] (by kernel_rfl) (by kernel_rfl) ?_
    rintro w11 rfl
    have HS:=znq HS.znr.drew
    refine zL (HS.znr.get 1 rfl).range (HS.znr.get 1 rfl).lt zc HYM.znr rfl rfl rfl (fun K hK=>?_)
    go_simp;refine hK _ ?_;clear hK K
    refine m10 ?_
    refine zL (HS.znr.get 0 rfl).range (HS.znr.get 0 rfl).lt zc HUM.znr rfl rfl rfl (fun K hK=>?_)
    go_simp;refine hK _ ?_;clear hK K
    refine yK ⟨?_,?_,Nat.le_refl _⟩
    ·intro f hf
     simp only [List.mem_singleton] at hf
     subst hf
     exact y6 _ _ _ _ _ _ rfl rfl rfl rfl (by simp) zj rfl
    refine zC rfl rfl (fun uz wa12 hla K hK=>?_)
    go_simp
    have HS:=znq (HS.znr.later hla)
    refine (YZ kp q p 0 0 k U _ (HK.znr.onlyB HS.znr.only n1 n2 n3) (by omega) (by omega) HUL.znr).mono ?_
    rintro e w12 ⟨rfl,hbel⟩
    have HS:=znq (HS.znr.later hbel)
    go_simp
    refine hK _ _ hbel ?_
    clear hK K hbel hla
    have HUEL:=znq (yo k 0 0 U)
    generalize eBlk k 0 0 U=eu at *
    refine zC rfl rfl (fun uz wa13 hla K hK=>?_)
    refine y8 171 117 16 2 _ [Y.map B,eu.map B] rfl rfl Tryz.underlying171 zF rfl (by omega) rfl (by omega) (by omega) (by simp [HYL.znr,HUEL.znr]) ?_
    intro w13 hb hbel
    have HS:=znq (HS.znr.later (hla.trans hbel))
    refine hK _ _ hbel ?_
    have HR:=znq (show yB 16 w13 (some ⟨wa13.heap.size,0,none⟩) [Y,eu] from ⟨by simp [HYL.znr,HUEL.znr],by have:=hb.lies;simpa using this⟩)
    clear hK K hbel hla hb
    go_simp
    refine zC rfl rfl (fun uz wa14 hla K hK=>?_)
    go_simp
    refine (yN (some ⟨wa13.heap.size,0,none⟩) 2 2 [Y,eu] _ rfl (by omega) (HR.znr.below hla)).mono ?_
    rintro e w14 ⟨rfl,hbel⟩
    have HS:=znq (HS.znr.later (hla.trans hbel))
    rw [HC1.znr.1]
    go_simp
    refine hK _ _ hbel ?_
    clear hK K hbel hla HR
    refine yZ (fun bx14 wb14 hlb hbx14 hbn=>?_)
    go_simp
    have HS:=znq ((HS.znr.later hlb).add (show Blk wb14 bx14 ((zf 16).map B) 117 from hbn))
    clear hlb hbn
    refine zp rfl rfl (by rfl) (fun K hK=>?_)
    refine (HS.znr.get 0 rfl).opstore rfl rfl rfl zc (by simp [zd]) (by rw [List.length_map];exact HCL.znr) (zg _) (fun w14 hb ho=>hK _ _ ?_)
    clear hK K
    have HS:=znq (HS.znr.change 0 hb ho (.inl (by have:=HBB.znr;omega)) (fun e he=>by have:=HNE.znr e he;omega))
    clear hb ho HNE hps
    go_simp
    refine zo ?_
    have hx14:=(HS.znr.get 0 rfl).lt
    have hc0:=fun (z':zG w14.drew)=>((HS.znr.drew.later z'.later).get 7 rfl).cell 0 (.slice (some ⟨pb,0,none⟩) np cp) (by rw [HVV.znr.1];rfl)
    go_wp2_with fail
    refine zn [0,1,2,3,4,5,6,7,11,8,9,10,12,13,14] (by kernel_rfl) (by kernel_rfl) ?_
    rintro w15 rfl
    have HS:=znq HS.znr.drew
    iterate 3 refine m1R ?_
    refine zt (HS.znr.get 1 rfl).range (HS.znr.get 1 rfl).lt zc HUM.znr rfl rfl rfl rfl (fun K hK=>?_)
    go_simp;refine hK _ ?_;clear hK K
    iterate 3 refine m1R ?_
    refine zt (HS.znr.get 0 rfl).range (HS.znr.get 0 rfl).lt zc HCM.znr rfl rfl rfl rfl (fun K hK=>?_)
    go_simp;refine hK _ ?_;clear hK K
    refine zt (HS.znr.get 0 rfl).range (HS.znr.get 0 rfl).lt zc HCM.znr rfl rfl rfl rfl (fun K hK=>?_)
    go_simp;refine hK _ ?_;clear hK K
    clear hc0
    refine zi rfl rfl (by rfl) (fun K hK=>?_)
    go_simp
    refine (YZ kp q p 1 i1 k C _ (HK.znr.onlyB HS.znr.only n1 n2 n3) (by omega) hi9 HCL.znr).mono ?_
    rintro e w16 ⟨rfl,hbel⟩
    have HS:=znq (HS.znr.later hbel)
    go_simp
    refine hK _ _ hbel ?_
    clear hK K hbel
    have HCEL:=znq (yo k 1 i1 C)
    generalize eBlk k 1 i1 C=ec at *
    refine zi rfl rfl (by rfl) (fun K hK=>?_)
    refine y8 171 117 16 2 _ [U.map B,ec.map B] rfl rfl Tryz.underlying171 zF rfl (by omega) rfl (by omega) (by omega) (by simp [HUL.znr,HCEL.znr]) ?_
    intro w17 hb hbel
    have HS:=znq (HS.znr.later hbel)
    have HR:=znq (show yB 16 w17 (some ⟨w16.heap.size,0,none⟩) [U,ec] from ⟨by simp [HUL.znr,HCEL.znr],by have:=hb.lies;simpa using this⟩)
    refine hK _ _ hbel ?_
    clear hK K hbel hb
    go_simp
    refine zi rfl rfl (by rfl) (fun K hK=>?_)
    go_simp
    refine (yN (some ⟨w16.heap.size,0,none⟩) 2 2 [U,ec] _ rfl (by omega) HR.znr).mono ?_
    rintro e w18 ⟨rfl,hbel⟩
    have HS:=znq (HS.znr.later hbel)
    rw [HF1.znr.1]
    go_simp
    refine hK _ _ hbel ?_
    clear hK K hbel HR
    have hbp:=XD F C HFL.znr HCL.znr
    refine kQ rfl rfl (by rfl) 212 _ [(0,.agg (F.map B).toArray),(1,.agg (C.map B).toArray)] _ rfl rfl hbp (fun K hK=>?_)
    go_simp
    refine hK _ ?_
    clear hK K hbp
    refine mqR ?_
    refine zp rfl rfl (by rfl) (fun K hK=>?_)
    refine (HS.znr.get 8 rfl).opstoreAt (o:=i*32) (cs:=F.map B++C.map B) rfl rfl rfl vt (by simp [HFL.znr,HCL.znr]) (by have:=zcf (A:=A) (R:=R) (tl:=tl) (M:=a++b) (by simp [HA.znr,HB.znr]);rw [HAL.znr] at this;exact this) (by intro u hu;rcases List.mem_append.1 hu with hu | hu <;> exact zg _ _ hu) (fun w19 hb19 ho19=>hK _ _ ?_)
    clear hK K
    have hb19:Blk w19 pb (wj A (F++C) R tl) 212:=by
     rw [← zce (A:=A) (M:=a++b) (C:=F++C) (R:=R) (tl:=tl) HAL.znr (by simp [HA.znr,HB.znr,HFL.znr,HCL.znr])]
     simpa [List.append_assoc] using hb19
    have HS:=znq (show Su w pb w19 [(bx14,C.map B,117),(m,U.map B,117),(n,Y.map B,117),(be,E.map B,117),(bw3,sum.map B,117),(bw2,(zf 16).map B,117),(bw1,z.map B,117),(bb,V,181),(pb,wj A (F++C) R tl,212)] from HS.znr.change 8 hb19 ho19 (.inr rfl) (by simp;omega))
    clear hb19 ho19
    go_simp
    refine zo ?_
    have HSL:=znq (plusB_length [sum,Y])
    go_wp2_with (first | (refine (HS.znr.get 4 rfl).wload rfl rfl rfl zc HXM.znr ?_) | (refine (HS.znr.get 2 rfl).wload rfl rfl rfl zc HYM.znr ?_) | (refine qQ 171 117 16 2 _ [sum.map B,Y.map B] rfl rfl rfl Tryz.underlying171 zF rfl (by omega) rfl (by omega) (by omega) (by simp [HX.znr,HYL.znr]) ?_))
    intro w20 hb hbel
    have HS:=znq (HS.znr.later hbel)
    have HR:=znq (show yB 16 w20 (some ⟨w19.heap.size,0,none⟩) [sum,Y] from ⟨by simp [HX.znr,HYL.znr],by have:=hb.lies;simpa using this⟩)
    clear hb hbel
    go_wp2_with fail
    refine (yN (some ⟨w19.heap.size,0,none⟩) 2 2 [sum,Y] _ rfl (by omega) HR.znr).mono ?_
    rintro e w21 ⟨rfl,hbel⟩
    have HS:=znq (HS.znr.later hbel)
    generalize plusB [sum,Y]=s2 at *
    clear hbel HR
    go_wp2_with (refine (HS.znr.get 4 rfl).wstore rfl rfl rfl rfl zc HXM.znr (by rw [List.length_map];exact HSL.znr) (zg _) ?_)
    intro w22 hb22 ho22
    have HS:=znq (show Su w pb w22 [(bx14,C.map B,117),(m,U.map B,117),(n,Y.map B,117),(be,E.map B,117),(bw3,s2.map B,117),(bw2,(zf 16).map B,117),(bw1,z.map B,117),(bb,V,181),(pb,wj A (F++C) R tl,212)] from HS.znr.change 4 hb22 ho22 (.inl (by have:=HBB.znr;omega)) (by simp;omega))
    have HS:=znq (show Su w pb w22 [(bw3,s2.map B,117),(bw2,(zf 16).map B,117),(bw1,z.map B,117),(bb,V,181),(pb,(zV (z6 k z 0 (ps.take (i+1))++ps.drop (i+1))).map B++tl,212)] from by rw [HN1.znr.1];exact HS.znr.tail2.tail2)
    clear hb22 ho22
    go_wp2
    go_roundw
    case rel=>exact ⟨i+1,s2,by omega,by rw [← HI1.znr.1],HSL,HE,HS⟩
    case measure=>have:=HI1.znr.1;simp [intOf];omega
  ·obtain rfl:i=np:=by omega
   have HE:=znq (show sum=S∧True from ⟨by have:=HE.znr.1;rwa [List.drop_eq_nil_of_le (by rw [HNP.znr];exact Nat.le_refl _)] at this,trivial⟩)
   have HS:=znq (show Su w pb wr [(bw3,sum.map B,117),(bw2,(zf 16).map B,117),(bw1,z.map B,117),(bb,V,181),(pb,(zV (z6 k z 0 ps)).map B++tl,212)] from by
    have:=HS.znr
    rwa [List.drop_eq_nil_of_le (by rw [HNP.znr];exact Nat.le_refl _),List.take_of_length_le (by rw [HNP.znr];exact Nat.le_refl _),List.append_nil] at this)
   go_wp2_with (first | (refine (HS.znr.get 0 rfl).wload rfl rfl rfl zc HXM.znr ?_) | (refine (HS.znr.get 1 rfl).wstore rfl rfl rfl rfl zc (by rw [List.length_map];exact zd 16) HXM.znr (zg _) ?_))
   intro w6 hb6 ho6
   have HS:=znq (HS.znr.change 1 hb6 ho6 (.inl (by have:=HBB.znr;omega)) (by simp;omega))
   have HP:=znq (HS.znr.get 4 rfl)
   go_wp2
   refine hb6.result rfl rfl rfl zc HXM.znr ⟨by rw [HE.znr.1],HP.znr,HS.znr.only⟩
end Go.Proofs.YtjaioajjfiaheaaGreatDoor
namespace Go.Cha
open Go.Ops Go.Oct Go.Trn
theorem zdg (a b:List UInt8) (h:b.length≤a.length):splice a 0 b=b++a.drop b.length:=by
 unfold splice
 rw [List.take_zero,List.nil_append,Nat.zero_add]
theorem zfe (a b:List UInt8) (ha:a.length=16) (hb:b.length=8):splice a 8 b=a.take 8++b:=by
 unfold splice
 rw [List.drop_eq_nil_of_le (by omega),List.append_nil]
theorem zau {key nonce:List UInt8} {r many:Nat} {b:List UInt8} (h:b.length≠0):xa key nonce r many b=xorL b (kr key nonce r many)++xa key nonce r (many+1) (b.drop 64):=by
 conv=>lhs;unfold xa
 rw [dif_neg h]
end Go.Cha
namespace Go.Proofs.YtjaioajjfiaheaaGreatDoor
open Go.RowKit Go.Mem Go.Ops Go.Cells Go.Oct Go.Trn Go.Cha
attribute [local irreducible] zE zN zO zM yJ qM qj
theorem VO (w:World) (a:Option Addr) (n c:Nat) (h:16≤n):(Instr.arrayAt 117 (.slice a n c)).run Tryz.prog w=.ok (.pointer a) w:=by
 simp [Instr.arrayAt,run_underlying Tryz.underlying117,show ¬ n < 16 by omega]
theorem zdh:Row Tryz.prog 192 24:=⟨by kernel_rfl,by kernel_rfl⟩
abbrev Vf (r:Nat) (sl:Value) (bo bi:Nat) (v:Value) (u:UInt64) (us:Nat→Value):Act:={ tmps:=#[us 0,us 1,.int .i64 r,sl,us 4,us 5,us 6,us 7,us 8,us 9,.pointer (some ⟨bo,0,none⟩),us 11,.pointer (some ⟨bi,0,none⟩),v,L u,us 15,us 16,us 17,us 18,us 19,us 20,us 21,us 22,us 23,us 24,us 25,us 26,us 27,us 28,us 29,us 30,us 31,us 32,us 33,us 34,us 35,us 36,us 37,us 38,us 39,us 40,us 41,us 42,us 43,us 44,us 45,us 46,us 47,us 48,us 49,us 50,us 51,us 52,us 53,us 54,us 55,us 56,us 57,us 58,us 59,us 60,us 61,us 62,us 63,us 64],defers:=[] }
def Qw (key nonce b:List UInt8) (r bb:Nat) (w:World) (x:Act) (wr:World):Prop :=
 ∃ (bz bo bi:Nat) (us:Nat→Value) (ao:Option Addr) (n c:Nat) (rest:List UInt8) (v:Value) (k:Nat) (outs inn:List UInt8) (many:Nat) (u:UInt64),x=Vf r (.slice ao n c) bo bi v u us∧bb≤bo∧bb≤bi∧bo < bz∧bi < bz∧bo≠bi∧n≤c∧k+n=b.length∧Hid (rest.length=n)∧Hid (zr w ao (rest.map B))∧Hid (u=UInt64.ofNat many∧True) ∧
  Hid (inn.length=16∧inn.drop 8=nonce.drop 16)∧Hid (outs.length=k∧outs++xa key nonce r many rest=jT key nonce r b)∧Hid (wr.ownsRow bz 5 1 v k (outs.map B)) ∧
  Hid (St w bb wr [(bi,inn.map B,117),(bo,(jw key (nonce.take 16) r).map B,186)])∧bz≤wr.heap.size
theorem Qw.intro {key nonce b:List UInt8} {r bb:Nat} {w:World} {x:Act} {wr:World} (bz bo bi:Nat) (ao:Option Addr) (n c:Nat) (rest:List UInt8) (v:Value) (k:Nat) (outs inn:List UInt8) (many:Nat) (u:UInt64)
  (hx:x=Vf r (.slice ao n c) bo bi v u (fun i=>x.tmps.getD i undef)) (g1:bb≤bo) (g2:bb≤bi) (g3:bo < bz) (g4:bi < bz) (g5:bo≠bi) (h1:n≤c) (h2:k+n=b.length) (h3:rest.length=n) (h4:zr w ao (rest.map B)) (h5:u=UInt64.ofNat many) (h6:inn.length=16∧inn.drop 8=nonce.drop 16) (h7:outs.length=k∧outs++xa key nonce r many rest=jT key nonce r b)
  (h8:wr.ownsRow bz 5 1 v k (outs.map B)) (h9:St w bb wr [(bi,inn.map B,117),(bo,(jw key (nonce.take 16) r).map B,186)]) (h10:bz≤wr.heap.size):Qw key nonce b r bb w x wr :=
 ⟨bz,bo,bi,_,ao,n,c,rest,v,k,outs,inn,many,u,hx,g1,g2,g3,g4,g5,h1,h2,h3,h4,⟨h5,trivial⟩,h6,h7,h8,h9,h10⟩
theorem zdi (key nonce:List UInt8) (r:Nat) (ao:Option Addr) (n cap:Nat) (b:List UInt8) (w:World) (hk:key.length=32) (hnn:nonce.length=24) (hr:YX r) (hb:b.length=n) (hc:n≤cap) (hn:n≤1000000) (hl:zr w ao (b.map B)) :
  Calls Tryz.prog 128 #[.agg (key.map B).toArray,.agg (nonce.map B).toArray,.int .i64 r,.slice ao n cap] w fun e w'=>∃ v,e=.returned (.tuple #[v,.int .i64 0])∧w'.ownsRow w.heap.size 5 1 v n ((jT key nonce r b).map B)∧Below w.heap.size w w':=by
 obtain ⟨i0,hi0,hz0,hz1,hz2⟩:=info_parts yq
 have HI:=znq (And.intro hi0 (And.intro hz0 (And.intro hz1 hz2)))
 have HK:=znq (show key.length=32∧True from ⟨hk,trivial⟩)
 have HKV:=znq (show (key.map B).length=32 by rw [List.length_map];exact hk)
 have HNN:=znq (show nonce.length=24∧True from ⟨hnn,trivial⟩)
 obtain ⟨t16,ht16⟩:∃ t,t=nonce.take 16:=⟨_,rfl⟩
 have HT:=znq (show t16=nonce.take 16∧t16.length=16 from ⟨ht16,by rw [ht16,List.length_take];omega⟩)
 have HT16:=znq (show (t16.map B).length=16 by rw [List.length_map,HT.znr.2])
 have HD8:=znq (show (nonce.drop 16).length=8 by rw [List.length_drop];omega)
 have HTK:=znq (show ((nonce.map B).drop 0).take 16=t16.map B by rw [List.drop_zero,ht16,List.map_take])
 have HDK:=znq (show ((nonce.map B).drop 16).take ((nonce.drop 16).map B).length=(nonce.drop 16).map B by rw [← List.map_drop,List.take_length])
 have HR:=znq hr
 have HB:=znq hb
 have HL:=znq hl
 have HS:=znq (St.start w)
 clear hk hnn hr hb hl hi0 hz0 hz1 hz2 ht16
 go_enter Tryz.func128,Tryz.ntmps128
 go_wp2_with (refine zh 186 _ (key.map B) _ rfl rfl rfl rfl ?_)
 intro w1 hb hbel;have HS:=znq (HS.znr.push hb hbel);have hlt1:=hb.lt;clear hb hbel
 go_wp2_with (refine zh 192 _ (nonce.map B) _ rfl rfl rfl rfl ?_)
 intro w2 hb hbel;have HS:=znq (HS.znr.push hb hbel);have hlt2:=hb.lt;clear hb hbel
 have g0:w.heap.size < w2.heap.size:=HS.znr.ne _ (List.mem_of_getElem? (i:=1) rfl)
 have g1:w1.heap.size < w2.heap.size:=HS.znr.ne _ (List.mem_of_getElem? (i:=0) rfl)
 generalize hbb:w.heap.size=bb at *
 generalize w1.heap.size=b1 at *
 have HBB:=znq hbb
 clear hbb
 go_wp2_with fail
 refine yd 0 (Qw key nonce b r bb w) (fun x _=>X9 (x.tmps.getD 3 undef)) rfl ?_ ?_
 ·simp only [q9]
  have hs1:=fun (w':World)=>qN (P:=Tryz.prog) w' 192 5 24 Tryz.underlying192 zl b1 0 16 16 rfl (by omega) (by omega)
  have hs2:=fun (w':World)=>VO w' (some ⟨b1,0,none⟩) 16 24 (by omega)
  go_wp2_with fail
  refine Kk zW [10] [0,1,4,2,3] 7 zW.refl (fun _ _ _ h1 h2=>h1.trans h2) (by kernel_rfl) (by kernel_rfl) ?_
  rintro w3 rfl
  have HS:=znq HS.znr.drew
  refine Kw (HS.znr.get 1 rfl).range (HS.znr.get 1 rfl).lt yP HKV.znr rfl rfl rfl rfl (fun K hK=>?_)
  go_simp;refine hK _ ?_;clear hK K
  repeat (refine qH rfl rfl (fun K hK=>?_);go_big_quiet_step (fail);refine wpQuiet_nil (hK _ ?_);clear hK K)
  clear hs1 hs2
  refine Kw (Blk.rangeIn (HS.znr.get 0 rfl) 0 16 _ (by exact HTK.znr)) (HS.znr.get 0 rfl).lt zc HT16.znr rfl rfl rfl rfl (fun K hK=>?_)
  go_simp;refine hK _ ?_;clear hK K
  refine vG ?_
  have HSH:=znq (show ((jw key t16 r).map B).length=32 by rw [List.length_map,wY])
  refine zex (i:=5) (j:=9) (by kernel_rfl) rfl rfl rfl rfl (fun K hK=>?A) (fun K hK=>?B)
  case' A =>
   go_simp
   refine (WE key t16 r _ HK.znr.1 HT.znr.2 HR.znr).mono ?_
   rintro e w4 ⟨rfl,hbel⟩
   have HS:=znq (HS.znr.later hbel)
   have hz4:=hbel.size
   go_simp
   refine hK _ _ (fun _=>hbel) ?_
   clear hK K hbel
   refine Qv [(6,2),(7,2),(8,2),(9,0),(10,0),(11,2)] (by kernel_rfl) ?_
   refine mqN ?_
   refine yS rfl (by rfl) (fun K hK=>?_)
   refine Yv 186 ((zf 32).map B) _ rfl qA rfl (fun wb hbn hlb=>hK _ _ (fun _=>hlb) ?_)
   clear hK K
   have hbo:w2.heap.size≤w4.heap.size:=hz4
   have HS:=znq (HS.znr.push hbn hlb)
   generalize w4.heap.size=bo at *
  case' B =>
   refine Yv 186 ((zf 32).map B) _ rfl qA rfl (fun w4 hbn hlb=>hK _ _ (fun _=>hlb) ?_)
   clear hK K
   have hbo:w2.heap.size≤w2.drew.heap.size:=Nat.le_refl _
   have HS:=znq (HS.znr.push hbn hlb)
   generalize w2.drew.heap.size=bo at *
   refine Qv [(5,0),(6,2),(7,2),(8,2),(10,0),(11,2)] (by kernel_rfl) ?_
   refine yS rfl (by rfl) (fun K hK=>?_)
   go_simp
   refine (WE key t16 r _ HK.znr.1 HT.znr.2 HR.znr).mono ?_
   rintro e wb ⟨rfl,hbel⟩
   have HS:=znq (HS.znr.later hbel)
   go_simp
   refine hK _ _ (fun _=>hbel) ?_
   clear hK K hbel
   refine mqN ?_
  all_goals
   generalize w2.heap.size=b2 at *
   refine yS rfl (by rfl) (fun K hK=>?_)
   refine (HS.znr.get 0 rfl).opstore rfl rfl rfl yP (by rw [List.length_map,zd]) HSH.znr (zg _) (fun w5 hb ho=>hK _ _ (fun h=>by cases h) ?_)
   clear hK K
   have HS:=znq (HS.znr.change 0 hb ho (by omega) (by simp;omega))
   clear hb ho
   go_simp
   refine mqN ?_
   refine jA ?_
   rw [HT.znr.1] at HS
   have g2:bo < w5.heap.size:=HS.znr.ne _ (List.mem_of_getElem? (i:=0) rfl)
   have g3:b1 < w5.heap.size:=HS.znr.ne _ (List.mem_of_getElem? (i:=1) rfl)
   have g4:bb < w5.heap.size:=HS.znr.ne _ (List.mem_of_getElem? (i:=2) rfl)
   go_wp2_with (refine ze 117 ((zf 16).map B) _ rfl rfl zj rfl ?_)
   intro w6 hb hbel;have HS:=znq (HS.znr.push hb hbel);have hlt6:=hb.lt;clear hb hbel
   generalize w5.heap.size=b5 at *
   have hs1:=fun (w':World)=>yY (P:=Tryz.prog) w' 117 5 16 Tryz.underlying117 zl b5 0 8 8 rfl (by omega)
   have hs2:=fun (w':World)=>yY (P:=Tryz.prog) w' 192 5 24 Tryz.underlying192 zl b1 0 16 16 rfl (by omega)
   go_wp2_with fail
   refine zn [0,1,2] (by kernel_rfl) (by kernel_rfl) ?_
   rintro w7 rfl
   refine mqR ?_
   clear hs1 hs2
   have HS:=znq HS.znr.drew
   refine zp rfl rfl (by rfl) (fun K hK=>?_)
   refine (HS.znr.get 0 rfl).opcopy 8 ((nonce.drop 16).map B) rfl rfl rfl Tryz.underlying22 zl (fun _=>rfl) ((HS.znr.get 2 rfl).liesIn 16 HDK.znr) (by rw [List.length_map,HD8.znr];rfl) (by rw [List.length_map,List.length_map,HD8.znr,zd];omega) (zg _) (fun w8 hb ho=>hK _ _ ?_)
   clear hK K
   rw [xV,zfe _ _ (zd 16) HD8.znr,show (zf 16).take 8=zf 8 from rfl] at hb
   have HS:=znq (HS.znr.change 0 hb ho (by omega) (by simp;omega))
   clear hb ho
   go_simp
   refine zo ?_
   have hlt8:b5 < w8.heap.size:=HS.znr.ne _ (List.mem_of_getElem? (i:=0) rfl)
   go_wp2_with (at_make;refine wpList_make_own _ rfl _ _ 22 rfl w8.heap.size 5 i0 (.int .u8 0) 1 Tryz.underlying22 HI.znr.1 HI.znr.2.1 HI.znr.2.2.1 _ _ _ n rfl rfl ?m1 ?m2 ?m3 (Nat.le_refl _) ?_)
   case m1=>simp
   case m2=>rw [HI.znr.2.2.2];omega
   case m3=>unfold maxLen;omega
   intro w9 hown hgrow
   have HOWN:=znq hown
   have hbel9:Below w8.heap.size w8 w9:=(Below.refl w8.heap.size w8).grown hgrow (Nat.le_refl _) (fun k h=>by cases h)
   have HS:=znq (HS.znr.later hbel9)
   have hz9:=hbel9.size
   clear hown hgrow hbel9
   go_wp2
   refine Qw.intro w8.heap.size bo b5 ao n cap b _ 0 [] (zf 8++nonce.drop 16) 0 _ rfl (by omega) (by omega) (by omega) hlt8 (by omega) hc (by simp;exact HB.znr.symm) HB.znr HL.znr rfl ⟨by rw [List.length_append,HD8.znr,zd],by rw [List.drop_append_of_le_length (by rw [zd];omega),List.drop_eq_nil_of_le (by rw [zd];omega),List.nil_append]⟩ ⟨rfl,by rw [List.nil_append];rfl⟩ HOWN.znr (HS.znr.sub ?_) hz9
   intro e he
   simp at he
   rcases he with rfl | rfl <;> simp
 ·clear HS
  rintro x wr ⟨bz,bo,bi,us,ao,n',c,rest,v,k,outs,inn,many,u,rfl,g1,g2,g3,g4,g5,hnc,hkn,HRL,HLR,HU,HIN,HOUT,HO,HS,hbz⟩
  have HSL:=znq (show (jw key (nonce.take 16) r).length=32∧True from ⟨wY _ _ _,trivial⟩)
  by_cases h0:n'=0
  ·subst h0
   have HE:=znq (show outs=jT key nonce r b∧k=n from ⟨by have h1:=HOUT.znr.2;rw [List.eq_nil_of_length_eq_zero HRL.znr,jU,List.append_nil] at h1;exact h1,by rw [← HB.znr];omega⟩)
   rw [HE.znr.1,HE.znr.2] at HO
   go_wp2
   go_ret2
   refine ⟨_,rfl,yi HO.znr (by have:=HS.znr.base_le;have:=HBB.znr;omega),?_⟩
   rw [HBB.znr]
   exact HS.znr.bel
  ·have d0:((n':Int)==0)=false:=by simp;omega
   obtain ⟨q,hq⟩:∃ q,q=min n' 64:=⟨_,rfl⟩
   have hq1:1≤q:=by omega
   have hq2:q≤n':=by omega
   have hq3:q≤64:=by omega
   have HQ:=znq (show q=min n' 64∧True from ⟨hq,trivial⟩)
   have hkb:k+n'≤1000000:=by have:=HB.znr;omega
   have HKN:=znq (show k+n'=b.length∧True from ⟨hkn,trivial⟩)
   clear hq hkn
   generalize hown:jw key (nonce.take 16) r=own at *
   have HOWN:=znq (show jw key (nonce.take 16) r=own∧True from ⟨hown,trivial⟩)
   clear hown
   have HOV:=znq (show (own.map B).length=32 by rw [List.length_map];exact HSL.znr.1)
   go_wp2_with fail
   refine (kH u _).mono ?_
   rintro e w1 ⟨rfl,hbel⟩
   have HS:=znq (HS.znr.later hbel)
   have HO:=znq (zm HO.znr hbel)
   have hz1:=hbel.size
   clear hbel
   have f1:bi < w1.heap.size:=HS.znr.ne _ (List.mem_of_getElem? (i:=0) rfl)
   have f2:bo < w1.heap.size:=HS.znr.ne _ (List.mem_of_getElem? (i:=1) rfl)
   have HPL:=znq (show ((zz u).map B).length=8 by rw [List.length_map,zK])
   go_wp2_with (refine ze 97 ((zf 8).map B) _ rfl rfl vJ rfl ?_)
   intro w2 hb hbel
   have HO:=znq (zm HO.znr hbel)
   have HS:=znq (HS.znr.push hb hbel);have hlt2:=hb.lt;clear hb hbel
   generalize hb8:w1.heap.size=b8 at *
   clear hb8
   have h8z:bz≤b8:=Nat.le_trans hbz hz1
   go_wp2_with (refine (HS.znr.get 0 rfl).wstore rfl rfl rfl (cs:=(zz u).map B) rfl kM (by rw [List.length_map,zd]) HPL.znr (zg _) ?_)
   intro w3 hb ho
   have HO:=znq (zu HO.znr (HS.znr.get 0 rfl) (by decide) ho)
   have HS:=znq (HS.znr.change 0 hb ho (by omega) (by simp;omega))
   have hz3:w3.heap.size=w2.heap.size:=ho.size
   clear hb ho
   have hs1:=fun (w':World)=>qN (P:=Tryz.prog) w' 117 5 16 Tryz.underlying117 zl bi 0 8 8 rfl (by omega) (by omega)
   go_wp2_with fail
   refine zn [0,1,2] (by kernel_rfl) (by kernel_rfl) ?_
   rintro w4 rfl
   refine mqR ?_
   clear hs1
   have HO:=znq (zm HO.znr (Below.refl _ _).drew)
   have HS:=znq HS.znr.drew
   have hz3:w3.drew.heap.size=w2.heap.size:=hz3
   refine zp rfl rfl (by rfl) (fun K hK=>?_)
   refine (HS.znr.get 1 rfl).opcopy 0 ((zz u).map B) rfl rfl rfl Tryz.underlying22 zl (fun _=>rfl) (HS.znr.get 0 rfl).lies (by rw [HPL.znr];rfl) (by rw [HPL.znr,List.length_map,HIN.znr.1];omega) (zg _) (fun w5 hb ho=>hK _ _ ?_)
   clear hK K
   rw [xV,zdg _ _ (by rw [zK,HIN.znr.1];omega),zK,HIN.znr.2] at hb
   have HO:=znq (zu HO.znr (HS.znr.get 1 rfl) (by decide) ho)
   have HS:=znq (HS.znr.change 1 hb ho (by omega) (by simp;omega))
   have hz5:w5.heap.size=w2.heap.size:=ho.size.trans hz3
   clear hb ho
   go_simp
   refine zo ?_
   obtain ⟨inn2,hinn2⟩:∃ i,i=zz u++nonce.drop 16:=⟨_,rfl⟩
   have HI2:=znq (show zz u++nonce.drop 16=inn2∧inn2.length=16 from ⟨hinn2.symm,by rw [hinn2,List.length_append,zK,HD8.znr]⟩)
   rw [← hinn2] at HS
   have HIV:=znq (show (inn2.map B).length=16 by rw [List.length_map];exact HI2.znr.2)
   have HID:=znq (show inn2.drop 8=nonce.drop 16 from by rw [hinn2,List.drop_append_of_le_length (by rw [zK];omega),List.drop_eq_nil_of_le (by rw [zK];omega),List.nil_append])
   clear hinn2
   go_wp2_with (first | (refine (HS.znr.get 2 rfl).wload rfl rfl rfl yP HOV.znr ?_) | (refine (HS.znr.get 1 rfl).wload rfl rfl rfl zc HIV.znr ?_))
   refine (zhw own inn2 r _ HSL.znr.1 HI2.znr.2 HR.znr).mono ?_
   rintro e w6 ⟨rfl,hbel⟩
   have HO:=znq (zm HO.znr hbel)
   have HS:=znq (HS.znr.later hbel)
   have hz6:=hbel.size
   clear hbel
   obtain ⟨blk,hblk⟩:∃ x,x=wW own inn2 r:=⟨_,rfl⟩
   have HBK:=znq (show wW own inn2 r=blk∧blk.length=64 from ⟨hblk.symm,by rw [hblk];exact wX _ _ _⟩)
   have HBV:=znq (show (blk.map B).length=64 by rw [List.length_map];exact HBK.znr.2)
   have HST:=znq (show blk=kr key nonce r many from by
    unfold kr
    rw [hblk,HOWN.znr.1,← HU.znr.1,HI2.znr.1])
   rw [← hblk]
   clear hblk
   have f3:b8 < w6.heap.size:=HS.znr.ne _ (List.mem_of_getElem? (i:=0) rfl)
   have f4:bi < w6.heap.size:=HS.znr.ne _ (List.mem_of_getElem? (i:=1) rfl)
   have f5:bo < w6.heap.size:=HS.znr.ne _ (List.mem_of_getElem? (i:=2) rfl)
   go_wp2_with (refine ze 215 ((zf 64).map B) _ rfl rfl ZU rfl ?_)
   intro w7 hb hbel
   have HO:=znq (zm HO.znr hbel)
   have HS:=znq (HS.znr.push hb hbel);have hlt7:=hb.lt;clear hb hbel
   generalize hb6:w6.heap.size=b6 at *
   clear hb6
   go_wp2_with (refine (HS.znr.get 0 rfl).wstore rfl rfl rfl (cs:=blk.map B) rfl wI (by rw [List.length_map,zd]) HBV.znr (zg _) ?_)
   intro w8 hb ho
   have HO:=znq (zu HO.znr (HS.znr.get 0 rfl) (by decide) ho)
   have HS:=znq (HS.znr.change 0 hb ho (by omega) (by simp;omega))
   have hz8:w8.heap.size=w7.heap.size:=ho.size
   clear hb ho
   go_wp2_with fail
   refine (j1 ao (some ⟨b6,0,none⟩) n' 64 c 64 rest blk _ HRL.znr HBK.znr.2 (by omega) (by omega) (HLR.znr.below (by rw [HBB.znr];exact HS.znr.bel)) (HS.znr.get 0 rfl).lies).mono ?_
   rintro e w9 ⟨v9,rfl,hown,hbel⟩
   obtain ⟨a9,c9,rfl,_,_,hl⟩:=zw hown
   have HO:=znq (zm HO.znr hbel)
   have HS:=znq (HS.znr.later hbel)
   have HL9:=znq hl
   have hz9:=hbel.size
   clear hown hl hbel
   simp only [id]
   rw [← HQ.znr.1]
   have HXL:=znq (show (xorL rest blk).length=q by rw [Oct.xorL_length,HRL.znr,HBK.znr.2];exact HQ.znr.1.symm)
   go_wp2_with (at_builtin;refine yD rfl (.tmp 56) (.tmp 57) 22 rfl bz 5 i0 (.int .u8 0) 1 Tryz.underlying22 HI.znr.1 HI.znr.2.1 HI.znr.2.2.1 HI.znr.2.2.2 rfl v k (outs.map B) rfl HO.znr a9 q c9 ((xorL rest blk).map B) rfl (by rw [List.length_map];exact HXL.znr) HL9.znr (j9 _) (by unfold maxLen;omega) (by omega) (by omega) ?_)
   intro v10 w10 hown hg
   have hbel10:Below bz w9 w10:=z8 (Below.refl bz w9) HO.znr hg (Nat.le_refl _) (by omega)
   have HS:=znq (show St w bb w10 [(bi,inn2.map B,117),(bo,own.map B,186)] from (HS.znr.sub (L':=[(bi,inn2.map B,117),(bo,own.map B,186)]) (by intro e he;simp at he;rcases he with rfl | rfl <;> simp)).low hbel10 (by omega) (by intro e he;simp at he;rcases he with rfl | rfl <;> simp <;> omega))
   have HO:=znq (show w10.ownsRow bz 5 1 v10 (k+q) ((outs++xorL rest blk).map B) from by rw [List.map_append];exact hown)
   have hz10:=hbel10.size
   clear hown hg hbel10
   have hsl:=fun (w':World)=>yv (P:=Tryz.prog) w' 22 5 1 Tryz.underlying22 zl ao n' c q q rfl hq2
   have HDR:=znq (show rest.drop 64=rest.drop q∧True from ⟨by
    by_cases h:n'≤64
    ·rw [List.drop_eq_nil_of_le (by rw [HRL.znr];omega),List.drop_eq_nil_of_le (by rw [HRL.znr];have:=HQ.znr.1;omega)]
    ·have:=HQ.znr.1;rw [show q=64 by omega],trivial⟩)
   have HOU:=znq (show (outs++xorL rest blk).length=k+q∧(outs++xorL rest blk)++xa key nonce r (many+1) (rest.drop q)=jT key nonce r b from ⟨by rw [List.length_append,HOUT.znr.1,HXL.znr],by
    rw [← HOUT.znr.2,zau (b:=rest) (by rw [HRL.znr];exact h0),← HST.znr,HDR.znr.1,List.append_assoc]⟩)
   rw [← HOWN.znr.1] at HS
   go_wp2
   refine wp_goto ⟨rfl,Qw.intro bz bo bi (yy ao c q) (n' - q) (c - q) (rest.drop q) v10 (k+q) (outs++xorL rest blk) inn2 (many+1) _ rfl g1 g2 g3 g4 g5 (by omega) (by have:=HKN.znr.1;omega) (by rw [List.length_drop,HRL.znr]) (zr.dropA HLR.znr (by rw [HRL.znr];exact hnc) q) ?_ ⟨HI2.znr.2,HID.znr⟩ HOU.znr HO.znr HS.znr (by omega),?_⟩
   ·rw [HU.znr.1]
    exact (UInt64.ofNat_add many 1).symm
   ·simp [X9];omega
end Go.Proofs.YtjaioajjfiaheaaGreatDoor
namespace Go.Mem
open Go.RowKit Go.Cells
theorem zr.far {w0 w:World} {ao:Option Addr} {xs:List Value} {sb:Nat} (h:zr w0 ao xs) (hb:Below w0.heap.size w0 w) (hsb:w0.heap.size≤sb):∀ w',zI sb w w'→zr w' ao xs:=by
 intro w' ho j u hu
 obtain ⟨b,off,e,hc⟩:=h j u hu
 have hlt:b < w0.heap.size:=block_lt_of_cell hc
 refine ⟨b,off,e,?_⟩
 have h1:w.heap[b]? = w0.heap[b]?:=hb.block b hlt
 have h2:w'.heap[b]? = w.heap[b]?:=ho.block b (Nat.lt_of_lt_of_le hlt hb.size) (by omega)
 rw [← hc]
 unfold World.cell?
 simp only [h2.trans h1]
theorem zr.farBlk {w:World} {b off sb:Nat} {xs vs:List Value} {ty:TypeId} (h:Blk w b vs ty) (hx:(vs.drop off).take xs.length=xs) (hne:b≠sb):∀ w',zI sb w w'→zr w' (some ⟨b,off,none⟩) xs :=
 fun w' ho=>Blk.liesIn (h.onlyB ho hne) off hx
end Go.Mem
namespace Go.Adi
open Go.Ops Go.Oct Go.Prime
theorem zff {α:Type} (a x c b:List α) (k:Nat) (h:k+b.length≤x.length):splice (a++x++c) (a.length+k) b=a++splice x k b++c:=by
 unfold splice
 rw [List.append_assoc a x c,List.take_append,List.take_of_length_le (by omega),show a.length+k - a.length=k by omega,List.take_append_of_le_length (by omega),List.drop_append,List.drop_eq_nil_of_le (by omega),List.nil_append,
  show a.length+k+b.length - a.length=k+b.length by omega,List.drop_append_of_le_length h]
 simp only [List.append_assoc]
theorem zav {r v k q:Nat} {p bs rest:List UInt8} (hp:rest.take k=p) (hk:p.length=k) (hrl:rest.length=16) (hq:k+q=16) (hb:q≤bs.length) :
  yO r v (p++bs)=yO r (vX r v (ZR (splice rest k (bs.take q)))) (bs.drop q):=by
 have h1:(p++bs).take 16=splice rest k (bs.take q):=by
  unfold splice
  rw [hp,List.take_append,List.take_of_length_le (by omega),show 16 - p.length=q by omega,List.length_take,List.drop_eq_nil_of_le (by omega),List.append_nil]
 have h2:(p++bs).drop 16=bs.drop q:=by
  rw [List.drop_append,List.drop_eq_nil_of_le (by omega),List.nil_append,show 16 - p.length=q by omega]
 rw [Ww (by rw [List.length_append];omega),h1,h2]
end Go.Adi
namespace Go.Proofs.YtjaioajjfiaheaaGreatDoor
open Go.RowKit Go.Mem Go.Ops Go.Cells Go.Oct Go.Trn Go.Blake Go.Prime Go.Adi
attribute [local irreducible] zE zN zO zM yJ
theorem Qx:(Tryz.prog.info? 3).map (·.size)=some 1:=by kernel_rfl
theorem WG {r v:Nat} {rest:List UInt8} {k:Nat} (h:rest.length=16):((qe r v rest k).drop 10).take 16=rest.map B:=by
 show (rest.map B++[_]).take 16=_
 rw [List.take_append_of_le_length (by rw [List.length_map,h];omega),List.take_of_length_le (by rw [List.length_map,h];omega)]
theorem jB {r v:Nat} {rest:List UInt8} {k:Nat} (h:rest.length=16):(qe r v rest k)[26]? = some (.int .i64 k):=by
 unfold qe
 rw [List.getElem?_append_right (by simp [numOf,h])]
 simp [numOf,h]
theorem zdj {r v:Nat} {rest:List UInt8} {k m:Nat} (h:rest.length=16):(qe r v rest k).set 26 (.int .i64 m)=qe r v rest m:=by
 unfold qe
 rw [List.set_append_right _ _ (by simp [numOf,h])]
 simp [numOf,h]
theorem zhx {r v:Nat} {rest cs:List UInt8} {k j:Nat} (h:j+cs.length≤rest.length):splice (qe r v rest k) (10+j) (cs.map B)=qe r v (splice rest j cs) k:=by
 unfold qe
 have e:=zff ((numOf r).map W++(numOf v).map W) (rest.map B) [.int .i64 k] (cs.map B) j (by simpa using h)
 rw [xV] at e
 exact e
abbrev zaw (sb:Nat) (sl:Value) (us:Nat→Value):Act:={ tmps:=#[.pointer (some ⟨sb,0,none⟩),sl,us 2,us 3,us 4,us 5,us 6,us 7,us 8,us 9,us 10,us 11,us 12,us 13,us 14,us 15,us 16,us 17,us 18,us 19,us 20,us 21,us 22,us 23,us 24,us 25,us 26,us 27,us 28,us 29,us 30,us 31,us 32,us 33,us 34,us 35,us 36,us 37,us 38,us 39,us 40,us 41,us 42],defers:=[] }
def PwAt (sb r:Nat) (fin:Nat×List UInt8) (w:World) (x:Act) (wr:World):Prop :=
 ∃ (us:Nat→Value) (ao:Option Addr) (n c:Nat) (bs:List UInt8) (v:Nat) (rest p:List UInt8) (k:Nat),x=zaw sb (.slice ao n c) us∧n≤c∧n≤1000000∧k < 16∧Hid (bs.length=n)∧Hid (∀ w',zI sb w w'→zr w' ao (bs.map B)) ∧
  Hid (rest.length=16∧rest.take k=p∧p.length=k)∧Hid (v < PP)∧Hid (yO r v (p++bs)=fin)∧Hid (Blk wr sb (qe r v rest k) 304)∧Hid (zI sb w wr)
theorem PwAt.intro {sb r:Nat} {fin:Nat×List UInt8} {w:World} {x:Act} {wr:World} (ao:Option Addr) (n c:Nat) (bs:List UInt8) (v:Nat) (rest p:List UInt8) (k:Nat) (hx:x=zaw sb (.slice ao n c) (fun i=>x.tmps.getD i undef)) (h1:n≤c) (h2:n≤1000000) (h3:k < 16) (h4:bs.length=n)
  (h5:∀ w',zI sb w w'→zr w' ao (bs.map B)) (h6:rest.length=16∧rest.take k=p∧p.length=k) (h7:v < PP) (h8:yO r v (p++bs)=fin) (h9:Blk wr sb (qe r v rest k) 304) (h10:zI sb w wr):PwAt sb r fin w x wr :=
 ⟨_,ao,n,c,bs,v,rest,p,k,hx,h1,h2,h3,h4,h5,h6,h7,h8,h9,h10⟩
theorem QY (sb r v:Nat) (rest p:List UInt8) (k:Nat) (ao:Option Addr) (n cap:Nat) (b:List UInt8) (w:World) (hb:Blk w sb (qe r v rest k) 304) (hrl:rest.length=16) (hp:rest.take k=p) (hk:p.length=k) (hk16:k < 16) (hr:r < PP) (hv:v < PP) (hn:b.length=n) (hc:n≤cap) (hn6:n≤1000000) (hl:∀ w',zI sb w w'→zr w' ao (b.map B)) :
  Calls Tryz.prog 223 #[.pointer (some ⟨sb,0,none⟩),.slice ao n cap] w fun e w'=>(∃ x,e=.returned x)∧(∃ rest',rest'.length=16∧rest'.take (yO r v (p++b)).2.length=(yO r v (p++b)).2∧Blk w' sb (qe r (yO r v (p++b)).1 rest' (yO r v (p++b)).2.length) 304)∧zI sb w w':=by
 have HSB:=znq hb
 have HO:=znq (zI.refl sb w)
 have HR:=znq hr
 have HV:=znq hv
 have HN:=znq hn
 have HL:=znq hl
 have HRP:=znq (show rest.length=16∧rest.take k=p∧p.length=k from ⟨hrl,hp,hk⟩)
 obtain ⟨fin,hfin⟩:∃ f,f=yO r v (p++b):=⟨_,rfl⟩
 have HF:=znq hfin.symm
 rw [← hfin]
 clear hb hr hv hn hl hrl hp hk hfin
 go_enter Tryz.func223,Tryz.ntmps223
 go_wp2_with fail
 refine yd 0 (PwAt sb r fin w) (fun x _=>X9 (x.tmps.getD 1 undef)) rfl ?_ ?_
 ·simp only [q9]
  go_wp2
  exact PwAt.intro ao n cap b v rest p k rfl hc hn6 hk16 HN.znr HL.znr HRP.znr HV.znr HF.znr HSB.znr HO.znr
 ·clear HSB HO HV HN HL HRP HF hc hn6 hk16
  rintro x wr ⟨us,ao,n,c,bs,v,rest,p,k,rfl,hc,hn6,hk16,HN,HL,HRP,HV,HF,HSB,HO⟩
  obtain ⟨q,hq⟩:∃ q,q=min n (16 - k):=⟨_,rfl⟩
  have hq1:q≤n:=by omega
  have hq2:k+q≤16:=by omega
  have HQ:=znq (show q=min n (16 - k)∧True from ⟨hq,trivial⟩)
  have HTL:=znq (show (bs.take q).length=q from by rw [List.length_take,HN.znr];omega)
  clear hq
  have hc26:=fun (x:zG wr.drew)=>(HSB.znr.drew.below x.later HSB.znr.drew.lt).cell 26 _ (jB HRP.znr.1)
  have hs1:=fun (w':World)=>yY (P:=Tryz.prog) w' 117 5 16 Tryz.underlying117 zl sb 10 k k rfl (by omega)
  simp only [zaw]
  go_wp2_with fail
  refine zn [0,1,2,3,4,5,6,7,8,9,10] (by kernel_rfl) (by kernel_rfl) ?_
  rintro w1 rfl
  refine mqR ?_
  clear hc26 hs1
  have HSB:=znq HSB.znr.drew
  have HO:=znq HO.znr.drew
  refine zp rfl rfl (by rfl) (fun K hK=>?_)
  refine HSB.znr.opcopy (10+k) ((bs.take q).map B) rfl rfl rfl Tryz.underlying22 zl (fun _=>rfl) (by rw [List.map_take];exact (HL.znr _ HO.znr).take q) (by rw [List.length_map,HTL.znr];exact HQ.znr.1) (by rw [List.length_map,HTL.znr,jY HRP.znr.1];omega) (zg _) (fun w2 hb ho=>hK _ _ ?_)
  clear hK K
  rw [zhx (by rw [HTL.znr,HRP.znr.1];exact hq2)] at hb
  obtain ⟨rs,hrs⟩:∃ x,x=splice rest k (bs.take q):=⟨_,rfl⟩
  have HRS:=znq (show splice rest k (bs.take q)=rs∧rs.length=16 from ⟨hrs.symm,by rw [hrs,length_splice _ _ _ (by rw [HTL.znr,HRP.znr.1];exact hq2)];exact HRP.znr.1⟩)
  have HRT:=znq (show rs.take (k+q)=p++bs.take q from by
   rw [hrs]
   unfold splice
   rw [HRP.znr.2.1,← List.append_assoc,List.take_append_of_le_length (by rw [List.length_append,HTL.znr,HRP.znr.2.2];omega),List.take_of_length_le (by rw [List.length_append,HTL.znr,HRP.znr.2.2];omega)])
  rw [← hrs] at hb
  clear hrs
  have HSB:=znq hb
  have HO:=znq (HO.znr.trans (zI.of_only ho))
  clear hb ho
  simp only [List.length_map,HTL.znr]
  go_simp
  refine mqR ?_
  refine zo ?_
  obtain ⟨m,hm⟩:∃ m,m=k+q:=⟨_,rfl⟩
  have hmI:(k:Int)+(q:Int)=(m:Int):=by omega
  have hm16:m≤16:=by omega
  have HM:=znq (show m=k+q∧True from ⟨hm,trivial⟩)
  rw [← hm] at HRT
  clear hm
  have hc26:=HSB.znr.cell 26 _ (jB HRS.znr.2)
  go_wp2_with (refine HSB.znr.wset (i:=26) (v:=.int .i64 m) rfl rfl rfl rfl Qx rfl rfl (by rw [jY HRS.znr.2];omega) ?_)
  intro w3 hb ho
  rw [zdj HRS.znr.2] at hb
  have HSB:=znq hb
  have HO:=znq (HO.znr.trans (zI.of_only ho))
  clear hb ho hc26
  have hsl:=fun (w':World)=>yv (P:=Tryz.prog) w' 22 5 1 Tryz.underlying22 zl ao n c q q rfl hq1
  have hc26:=HSB.znr.cell 26 _ (jB HRS.znr.2)
  by_cases h16:m < 16
  ·have d16:decide ((m:Int) < 16)=true:=by simp;omega
   have HFE:=znq (show fin=(v,p++bs)∧q=n from ⟨by rw [← HF.znr,Wv (by rw [List.length_append,HRP.znr.2.2,HN.znr];have:=HQ.znr.1;have:=HM.znr.1;omega)],by have:=HQ.znr.1;have:=HM.znr.1;omega⟩)
   have HPB:=znq (show p++bs=p++bs.take q∧(p++bs).length=m from ⟨by rw [List.take_of_length_le (by rw [HN.znr,HFE.znr.2];exact Nat.le_refl _)],by rw [List.length_append,HRP.znr.2.2,HN.znr,← HFE.znr.2];exact HM.znr.1.symm⟩)
   go_wp2
   try rw [Exit.jump_ret]
   refine bodyPost_ret (results_none rfl _ _ _) rfl ?_
   refine ⟨⟨_,rfl⟩,⟨rs,HRS.znr.2,?_,?_⟩,HO.znr⟩
   ·rw [HFE.znr.1,HPB.znr.2,HRT.znr]
    exact HPB.znr.1.symm
   ·rw [HFE.znr.1,HPB.znr.2]
    exact HSB.znr
  ·have d16:decide ((m:Int) < 16)=false:=by simp;omega
   have hm:=HM.znr.1
   have hkq:k+q=16:=by omega
   have HFE:=znq (show yO r (vX r v (ZR rs)) (bs.drop q)=fin from by
    rw [← HF.znr,← HRS.znr.1]
    exact (zav HRP.znr.2.1 HRP.znr.2.2 HRP.znr.1 hkq (by rw [HN.znr];exact hq1)).symm)
   clear hm
   go_wp2_with (refine HSB.znr.wloadAt (off:=10) rfl rfl rfl zc (WG HRS.znr.2) (by rw [List.length_map];exact HRS.znr.2) ?_)
   refine (zkq rs _ HRS.znr.2).mono ?_
   rintro e w4 ⟨rfl,hbel⟩
   have HSB:=znq (HSB.znr.below hbel HSB.znr.lt)
   have HO:=znq (HO.znr.trans (zI.of_below hbel))
   clear hbel hc26 hsl
   go_wp2_with fail
   refine (zda sb r v (ZR rs) rs m _ HSB.znr HR.znr HV.znr (Nat.mod_lt _ ze6)).mono ?_
   rintro e w5 ⟨⟨x5,rfl⟩,hb,ho⟩
   have HSB:=znq hb
   have HO:=znq (HO.znr.trans ho)
   clear hb ho
   go_wp2_with (refine HSB.znr.wset (i:=26) (v:=.int .i64 (0:Nat)) rfl rfl rfl rfl Qx rfl rfl (by rw [jY HRS.znr.2];omega) ?_)
   intro w6 hb ho
   have HSB:=znq (show Blk w6 sb (qe r (vX r v (ZR rs)) rs 0) 304 from by rw [← zdj (k:=m) (m:=0) HRS.znr.2];exact hb)
   have HO:=znq (HO.znr.trans (zI.of_only ho))
   clear hb ho
   go_wp2
   refine wp_goto ⟨rfl,PwAt.intro (yy ao c q) (n - q) (c - q) (bs.drop q) (vX r v (ZR rs)) rs [] 0 rfl (by omega) (by omega) (by omega) (by rw [List.length_drop,HN.znr]) (fun w' ho=>zr.dropA (HL.znr w' ho) (by rw [HN.znr];exact hc) q) ⟨HRS.znr.2,rfl,rfl⟩ (JW _ _ _) (by rw [List.nil_append];exact HFE.znr) HSB.znr HO.znr,?_⟩
   have:=HQ.znr.1
   simp [X9];omega
end Go.Proofs.YtjaioajjfiaheaaGreatDoor

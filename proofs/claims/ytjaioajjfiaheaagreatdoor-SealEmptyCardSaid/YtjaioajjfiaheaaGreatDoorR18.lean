/-
  Texts of this claim, one behind the other.
-/
import Derived.Test.YtjaioajjfiaheaaGreatDoorR1
import Derived.Test.YtjaioajjfiaheaaGreatDoorR17
import Derived.Test.YtjaioajjfiaheaaGreatDoorR8
import Derived.Test.YtjaioajjfiaheaaGreatDoorR14
import Derived.Lib.Hide
set_option linter.unusedVariables false
set_option linter.unusedSimpArgs false
set_option maxHeartbeats 16000000
set_option maxRecDepth 100000
namespace Go.Adi
open Go.Ops Go.Oct Go.Prime
theorem KO {p:List UInt8} {k:Nat} (hk:p.length=k) (h:k < 16):(splice (zf 16) 0 p).set k 1=p++[1]++zf (15 - p.length):=by
 have e:splice (zf 16) 0 p=p++zf (16 - k):=by
  unfold splice
  rw [List.take_zero,List.nil_append,Nat.zero_add,hk]
  congr 1
  unfold zf
  rw [List.drop_replicate]
 rw [e,List.set_append_right _ _ (by omega),show k - p.length=0 by omega,hk,show 16 - k=(15 - k)+1 by omega]
 simp [zf,List.replicate_succ]
end Go.Adi
namespace Go.Proofs.YtjaioajjfiaheaaGreatDoor
open Go.RowKit Go.Mem Go.Ops Go.Cells Go.Oct Go.Trn Go.Blake Go.Prime Go.Adi
attribute [local irreducible] zE zN zO zM yJ
theorem zax:(Tryz.prog.info? 304).map (·.zero)=some (some (.agg (qe 0 0 (zf 16) 0).toArray)):=by kernel_rfl
theorem zdk (r v:Nat) (rest:List UInt8) (k:Nat):∀ x∈qe r v rest k,x.oneCell'=true:=by
 intro x hx
 unfold qe at hx
 simp only [List.mem_append] at hx
 rcases hx with ((h | h) | h) | h
 ·exact yT _ x h
 ·exact yT _ x h
 ·exact zg _ x h
 ·simp at h;rw [h];rfl
theorem zhy (sb r v:Nat) (rest p:List UInt8) (k:Nat) (w:World) (hb:Blk w sb (qe r v rest k) 304) (hrl:rest.length=16) (hp:rest.take k=p) (hk:p.length=k) (hk16:k < 16) (hr:r < PP) (hv:v < PP) :
  Calls Tryz.prog 237 #[.pointer (some ⟨sb,0,none⟩)] w fun e w'=>e=.returned (.agg ((numOf (qq r v p)).map W).toArray)∧Below w.heap.size w w':=by
 have HSB:=znq hb
 have HR:=znq hr
 have HV:=znq hv
 have HRP:=znq (show rest.length=16∧rest.take k=p∧p.length=k from ⟨hrl,hp,hk⟩)
 have HVV:=znq (xG v)
 have HS:=znq (St.start w)
 have hsb:=hb.lt
 clear hb hr hv hrl hp hk
 by_cases h0:k=0
 ·subst h0
  have HE:=znq (show qq r v p=v∧True from ⟨by unfold qq;rw [if_pos HRP.znr.2.2],trivial⟩)
  rw [HE.znr.1]
  go_enter Tryz.func237,Tryz.ntmps237
  go_wp2_with (refine ze 301 ((List.replicate 5 (0:UInt32)).map W) _ rfl rfl xr rfl ?_)
  intro w1 hb hbel
  have HSB:=znq (HSB.znr.below hbel hsb)
  have HS:=znq (HS.znr.push hb hbel)
  clear hb hbel
  generalize hbb:w.heap.size=bb at *
  have HBB:=znq hbb
  clear hbb
  have hc26:=HSB.znr.cell 26 _ (jB (r:=r) (v:=v) (k:=0) HRP.znr.1)
  go_wp2_with (first | (refine HSB.znr.wloadAt (off:=5) rfl rfl rfl zP (Ve r v rest 0) HVV.znr ?_) | (refine (HS.znr.get 0 rfl).wstore rfl rfl rfl (cs:=(numOf v).map W) rfl zP rfl rfl (yT _) ?_))
  intro w2 hb ho
  have HE:=znq (zk HS.znr.bel ho (by omega))
  clear ho hc26
  go_wp2
  refine hb.result rfl rfl rfl zP rfl ⟨rfl,?_⟩
  rw [HBB.znr]
  exact HE.znr
 ·have d0:((k:Int)==0)=false:=by simp;omega
  have HE:=znq (show qq r v p=vX r v (JV p)∧True from ⟨by unfold qq;rw [if_neg (by rw [HRP.znr.2.2];exact h0)],trivial⟩)
  rw [HE.znr.1]
  clear HE
  have HPL:=znq (show (p.map B).length=k by rw [List.length_map];exact HRP.znr.2.2)
  go_enter Tryz.func237,Tryz.ntmps237
  go_wp2_with (refine ze 301 ((List.replicate 5 (0:UInt32)).map W) _ rfl rfl xr rfl ?_)
  intro w1 hb hbel
  have HSB:=znq (HSB.znr.below hbel hsb)
  have HS:=znq (HS.znr.push hb hbel)
  have hlt1:=hb.lt
  clear hb hbel
  generalize hbb:w.heap.size=bb at *
  have HBB:=znq hbb
  clear hbb
  have hc26:=HSB.znr.cell 26 _ (jB HRP.znr.1)
  go_wp2_with (refine ze 117 ((zf 16).map B) _ rfl rfl zj rfl ?_)
  intro w2 hb hbel
  have HSB:=znq (HSB.znr.below hbel HSB.znr.lt)
  have HS:=znq (HS.znr.push hb hbel)
  have hlt2:=hb.lt
  clear hb hbel hc26
  generalize w1.heap.size=b1 at *
  have hc26:=fun (x:zG w2.drew)=>(HSB.znr.drew.below x.later HSB.znr.drew.lt).cell 26 _ (jB HRP.znr.1)
  have hs1:=fun (w':World)=>qN (P:=Tryz.prog) w' 117 5 16 Tryz.underlying117 zl sb 10 k k rfl (by omega) (by omega)
  go_wp2_with fail
  refine zn [0,1,2,3,4,5,6,7,8,9] (by kernel_rfl) (by kernel_rfl) ?_
  rintro w3 rfl
  refine mqR ?_
  clear hc26 hs1
  have HSB:=znq HSB.znr.drew
  have HS:=znq HS.znr.drew
  have HLP:=znq (show zr w2.drew (some ⟨sb,10,none⟩) (p.map B) from Blk.liesIn HSB.znr 10 (by
   have h:=congrArg (List.take k) (WG (r:=r) (v:=v) (k:=k) HRP.znr.1)
   rw [List.take_take,Nat.min_eq_left (by omega),← List.map_take,HRP.znr.2.1] at h
   rw [HPL.znr]
   exact h))
  refine zp rfl rfl (by rfl) (fun K hK=>?_)
  refine (HS.znr.get 0 rfl).opcopy 0 (p.map B) rfl rfl rfl Tryz.underlying22 zl (fun _=>rfl) HLP.znr (by rw [HPL.znr];exact (Nat.min_eq_left (by omega)).symm) (by rw [HPL.znr,List.length_map,zd];omega) (zg _) (fun w4 hb ho=>hK _ _ ?_)
  clear hK K
  rw [xV] at hb
  have HSB:=znq (HSB.znr.only ho (by omega))
  have HS:=znq (HS.znr.change 0 hb ho (by omega) (by simp;omega))
  have hz4:w2.heap.size≤w4.heap.size:=by rw [ho.size];exact Nat.le_refl _
  clear hb ho
  go_simp
  refine zo ?_
  have HLA:=znq (show (splice (zf 16) 0 p).set k 1=p++[1]++zf (15 - p.length)∧(splice (zf 16) 0 p).length=16 from ⟨KO HRP.znr.2.2 hk16,by rw [length_splice _ _ _ (by rw [zd,HRP.znr.2.2];omega),zd]⟩)
  generalize splice (zf 16) 0 p=z1 at *
  obtain ⟨la,hla⟩:∃ x,x=p++[1]++zf (15 - p.length):=⟨_,rfl⟩
  rw [← hla] at HLA
  have HLL:=znq (show la.length=16∧leN la % PP=JV p from ⟨by rw [← HLA.znr.1,List.length_set];exact HLA.znr.2,by rw [hla];rfl⟩)
  have HLV:=znq (show (la.map B).length=16 by rw [List.length_map];exact HLL.znr.1)
  clear hla
  have hc26:=HSB.znr.cell 26 _ (jB HRP.znr.1)
  go_wp2_with (refine (HS.znr.get 0 rfl).wset (i:=k) (v:=B 1) rfl rfl rfl rfl zl rfl rfl (by rw [List.length_map,HLA.znr.2];exact hk16) ?_)
  intro w5 hb ho
  rw [ym,HLA.znr.1] at hb
  have HSB:=znq (HSB.znr.only ho (by omega))
  have HS:=znq (HS.znr.change 0 hb ho (by omega) (by simp;omega))
  have hz5:w2.heap.size≤w5.heap.size:=by rw [ho.size];exact hz4
  clear hb ho hc26
  have HSL:=znq (jY (r:=r) (v:=v) (k:=k) HRP.znr.1)
  go_wp2_with (first | (refine HSB.znr.wload rfl rfl rfl Kv HSL.znr ?_) | (refine ze 304 (qe 0 0 (zf 16) 0) _ rfl rfl zax rfl ?_))
  intro w6 hb hbel
  have HS:=znq (HS.znr.push hb hbel)
  have hlt6:=hb.lt
  clear hb hbel HSB
  generalize w5.heap.size=b5 at *
  go_wp2_with (refine (HS.znr.get 0 rfl).wstore rfl rfl rfl (cs:=qe r v rest k) rfl Kv (jY (zd 16)) HSL.znr (zdk _ _ _ _) ?_)
  intro w7 hb ho
  have HS:=znq (HS.znr.change 0 hb ho (by omega) (by simp;omega))
  clear hb ho
  go_wp2_with (refine (HS.znr.get 1 rfl).wload rfl rfl rfl zc HLV.znr ?_)
  refine (zc9 la _ HLL.znr.1).mono ?_
  rintro e w8 ⟨rfl,hbel⟩
  rw [HLL.znr.2]
  have HS:=znq (HS.znr.later hbel)
  clear hbel
  go_wp2_with fail
  refine (zda b5 r v (JV p) rest k _ (HS.znr.get 0 rfl) HR.znr HV.znr (Nat.mod_lt _ ze6)).mono ?_
  rintro e w9 ⟨⟨x9,rfl⟩,hb,ho⟩
  have HS:=znq (St.changeB HS.znr 0 hb ho (by omega) (by simp;omega))
  clear hb ho
  have HPV:=znq (xG (vX r v (JV p)))
  go_wp2_with (first | (refine (HS.znr.get 0 rfl).wloadAt (off:=5) rfl rfl rfl zP (Ve r (vX r v (JV p)) rest k) HPV.znr ?_) | (refine (HS.znr.get 2 rfl).wstore rfl rfl rfl (cs:=(numOf (vX r v (JV p))).map W) rfl zP rfl rfl (yT _) ?_))
  intro w10 hb ho
  have HE:=znq (zk HS.znr.bel ho (by omega))
  clear ho
  go_wp2
  refine hb.result rfl rfl rfl zP rfl ⟨rfl,?_⟩
  rw [HBB.znr]
  exact HE.znr
theorem zm3 (sb r v:Nat) (rest p:List UInt8) (k:Nat) (w:World) (hb:Blk w sb (qe r v rest k) 304) (hrl:rest.length=16) (hp:rest.take k=p) (hk:p.length=k) (hk16:k < 16) (hr:r < PP) (hv:v < PP) :
  Calls Tryz.prog 232 #[.pointer (some ⟨sb,0,none⟩)] w fun e w'=>e=.returned (.agg ((Z7 (qq r v p)).map B).toArray)∧Below w.heap.size w w':=by
 have HSB:=znq hb
 have HR:=znq hr
 have HV:=znq hv
 have HRP:=znq (show rest.length=16∧rest.take k=p∧p.length=k from ⟨hrl,hp,hk⟩)
 have HLL:=znq (show ((Z7 (qq r v p)).map B).length=16 by rw [List.length_map];exact YA _)
 have HS:=znq (St.start w)
 have hsb:=hb.lt
 clear hb hr hv hrl hp hk
 go_enter Tryz.func232,Tryz.ntmps232
 go_wp2_with (refine ze 117 ((zf 16).map B) _ rfl rfl zj rfl ?_)
 intro w1 hb hbel
 have HSB:=znq (HSB.znr.below hbel hsb)
 have HS:=znq (HS.znr.push hb hbel)
 have hlt1:=hb.lt
 clear hb hbel
 generalize hbb:w.heap.size=bb at *
 have HBB:=znq hbb
 clear hbb
 go_wp2_with fail
 refine (zhy sb r v rest p k _ HSB.znr HRP.znr.1 HRP.znr.2.1 HRP.znr.2.2 hk16 HR.znr HV.znr).mono ?_
 rintro e w2 ⟨rfl,hbel⟩
 have HS:=znq (HS.znr.later hbel)
 clear hbel
 go_wp2_with fail
 refine (zmu (qq r v p) _ (zhk HV.znr)).mono ?_
 rintro e w3 ⟨rfl,hbel⟩
 have HS:=znq (HS.znr.later hbel)
 clear hbel
 go_wp2_with (refine (HS.znr.get 0 rfl).wstore rfl rfl rfl (cs:=(Z7 (qq r v p)).map B) rfl zc (by rw [List.length_map,zd]) HLL.znr (zg _) ?_)
 intro w4 hb ho
 have HE:=znq (zk HS.znr.bel ho (by omega))
 clear ho
 go_wp2
 refine hb.result rfl rfl rfl zc HLL.znr ⟨rfl,?_⟩
 rw [HBB.znr]
 exact HE.znr
end Go.Proofs.YtjaioajjfiaheaaGreatDoor
namespace Go
def J5:Array Value→Sem Value:=fun args=>do
 let (x,y,b) ← Extern.MathBitsCarry.three "Sub64" args
 pure (Extern.MathBitsCarry.pair ((x+Extern.MathBitsCarry.m64 - y - b) % Extern.MathBitsCarry.m64) (if x < y+b then 1 else 0))
theorem zhs {P:Program} (x y k:Nat) (hk:k≤1) (w:World) :
  (J5 #[.int .u64 x,.int .u64 y,.int .u64 (k:Int)]).run P w =
   .ok (.tuple #[.int .u64 ((x+18446744073709551616 - y - k) % 18446744073709551616:Nat),.int .u64 ((if x < y+k then 1 else 0:Nat):Int)]) w:=by
 have:k=0∨k=1:=by omega
 rcases this with rfl | rfl <;> rfl
end Go
namespace Go.Adi
open Go.Ops
theorem zmr (p q:UInt64×UInt64):(plusW p q).1.toNat=(p.1.toNat+q.1.toNat) % 18446744073709551616:=by
 unfold plusW
 rw [zf9]
 unfold nat
 omega
theorem zms (p q:UInt64×UInt64):(plusW p q).2.toNat=(p.2.toNat+q.2.toNat+(p.1.toNat+q.1.toNat) / 18446744073709551616) % 18446744073709551616:=by
 unfold plusW
 rw [zga]
 unfold nat
 omega
theorem zkj (p q:UInt64×UInt64):(qp p q).1.toNat=(p.1.toNat+18446744073709551616 - q.1.toNat) % 18446744073709551616:=by
 have h1:=p.1.toNat_lt
 have h2:=q.1.toNat_lt
 have h3:=p.2.toNat_lt
 have h4:=q.2.toNat_lt
 unfold qp
 rw [zf9]
 unfold nat
 omega
theorem zkk (p q:UInt64×UInt64):(qp p q).2.toNat=(p.2.toNat+18446744073709551616 - q.2.toNat - (if p.1.toNat < q.1.toNat then 1 else 0)) % 18446744073709551616:=by
 have h1:=p.1.toNat_lt
 have h2:=q.1.toNat_lt
 have h3:=p.2.toNat_lt
 have h4:=q.2.toNat_lt
 unfold qp
 rw [zga]
 unfold nat
 split <;> omega
end Go.Adi
namespace Go.Proofs.YtjaioajjfiaheaaGreatDoor
open Go.RowKit Go.Mem Go.Ops Go.Cells Go.Oct Go.Adi
attribute [local irreducible] zE zN zO zM
def zQ (p:UInt64×UInt64):List Value:=[L p.1,L p.2]
theorem zX (p:UInt64×UInt64):∀ v∈zQ p,v.oneCell'=true:=by
 intro v hv
 simp [zQ] at hv
 rcases hv with rfl | rfl <;> rfl
theorem zc4 (x y k:Nat) (hk:k≤1) (w:World):(callFunc 181 #[.int .u64 x,.int .u64 y,.int .u64 k]).run Tryz.prog w=.ok (.value (.tuple #[.int .u64 ((x+y+k) % 18446744073709551616:Nat),.int .u64 ((x+y+k) / 18446744073709551616:Nat)])) w:=by
 rw [run_callFunc_extern Tryz.func181 (by kernel_rfl) (by kernel_rfl) (by kernel_rfl) (e:=add64Entry) (by kernel_rfl),run_add64 x y k (by omega) (by omega) (by omega) (by omega)]
 simp
theorem zc5 (x y k:Nat) (hk:k≤1) (w:World):(callFunc 221 #[.int .u64 x,.int .u64 y,.int .u64 k]).run Tryz.prog w=.ok (.value (.tuple #[.int .u64 ((x+18446744073709551616 - y - k) % 18446744073709551616:Nat),.int .u64 ((if x < y+k then 1 else 0:Nat):Int)])) w:=by
 rw [run_callFunc_extern Tryz.func221 (by kernel_rfl) (by kernel_rfl) (by kernel_rfl) (e:=J5) (by kernel_rfl),zhs x y k hk]
 rfl
theorem J6 (p q:UInt64×UInt64) (w:World):Calls Tryz.prog 178 #[.agg (zQ p).toArray,.agg (zQ q).toArray] w fun e w'=>e=.returned (.agg (zQ (plusW p q)).toArray)∧Below w.heap.size w w':=by
 obtain ⟨c,hc⟩:∃ c,c=(p.1.toNat+q.1.toNat) / 18446744073709551616:=⟨_,rfl⟩
 have hc1:c≤1:=by have:=p.1.toNat_lt;have:=q.1.toNat_lt;omega
 obtain ⟨d,hd⟩:∃ d,d=(p.2.toNat+q.2.toNat+c) / 18446744073709551616:=⟨_,rfl⟩
 have hr1:∀ w:World,(callFunc 181 #[.int .u64 p.1.toNat,.int .u64 q.1.toNat,.int .u64 0]).run Tryz.prog w=.ok (.value (.tuple #[.int .u64 (plusW p q).1.toNat,.int .u64 c])) w:=fun w=>by
  have:=zc4 p.1.toNat q.1.toNat 0 (by omega) w
  rw [Nat.add_zero,← zmr,← hc] at this
  exact this
 have hr2:∀ w:World,(callFunc 181 #[.int .u64 p.2.toNat,.int .u64 q.2.toNat,.int .u64 c]).run Tryz.prog w=.ok (.value (.tuple #[.int .u64 (plusW p q).2.toNat,.int .u64 d])) w:=fun w=>by
  have:=zc4 p.2.toNat q.2.toNat c hc1 w
  rw [← hd,hc,← zms,← hc] at this
  exact this
 obtain ⟨z,hz⟩:∃ z,z=plusW p q:=⟨_,rfl⟩
 rw [← hz] at hr1 hr2 ⊢
 have HS:=znq (St.start w)
 clear hc hd hz
 go_enter Tryz.func178,Tryz.ntmps178
 go_wp2_with (refine zh 119 _ (zQ p) _ rfl rfl rfl rfl ?_)
 intro w1 hb hbel;have HS:=znq (HS.znr.push hb hbel);have hlt1:=hb.lt;clear hb hbel
 go_wp2_with (refine zh 119 _ (zQ q) _ rfl rfl rfl rfl ?_)
 intro w2 hb hbel;have HS:=znq (HS.znr.push hb hbel);have hlt2:=hb.lt;clear hb hbel
 go_wp2_with (refine ze 119 ([L 0,L 0]) _ rfl rfl zT rfl ?_)
 intro w3 hb hbel;have HS:=znq (HS.znr.push hb hbel);have hlt3:=hb.lt;clear hb hbel
 generalize hbb:w.heap.size=bb at *
 generalize w1.heap.size=b1 at *
 generalize w2.heap.size=b2 at *
 have HBB:=znq hbb
 clear hbb
 have hx0:=(HS.znr.get 2 rfl).cell 0 (L p.1) rfl
 have hx1:=(HS.znr.get 2 rfl).cell 1 (L p.2) rfl
 have hy0:=(HS.znr.get 1 rfl).cell 0 (L q.1) rfl
 have hy1:=(HS.znr.get 1 rfl).cell 1 (L q.2) rfl
 go_wp2_with (refine (HS.znr.get 0 rfl).wstore rfl rfl rfl (cs:=zQ z) rfl zq rfl rfl (zX _) ?_)
 intro w4 hb ho
 have HE:=znq (zk HS.znr.bel ho (by omega))
 clear ho hx0 hx1 hy0 hy1
 go_wp2
 refine hb.result rfl rfl rfl zq rfl ⟨rfl,?_⟩
 rw [HBB.znr]
 exact HE.znr
theorem WB (p q:UInt64×UInt64) (w:World):Calls Tryz.prog 215 #[.agg (zQ p).toArray,.agg (zQ q).toArray] w fun e w'=>e=.returned (.agg (zQ (qp p q)).toArray)∧Below w.heap.size w w':=by
 obtain ⟨c,hc⟩:∃ c:Nat,c=(if p.1.toNat < q.1.toNat then 1 else 0):=⟨_,rfl⟩
 have hc1:c≤1:=by rw [hc];split <;> omega
 obtain ⟨d,hd⟩:∃ d:Nat,d=(if p.2.toNat < q.2.toNat+c then 1 else 0):=⟨_,rfl⟩
 have hr1:∀ w:World,(callFunc 221 #[.int .u64 p.1.toNat,.int .u64 q.1.toNat,.int .u64 0]).run Tryz.prog w=.ok (.value (.tuple #[.int .u64 (qp p q).1.toNat,.int .u64 c])) w:=fun w=>by
  have:=zc5 p.1.toNat q.1.toNat 0 (by omega) w
  simp only [Nat.sub_zero,Nat.add_zero] at this
  rw [← zkj,← hc] at this
  exact this
 have hr2:∀ w:World,(callFunc 221 #[.int .u64 p.2.toNat,.int .u64 q.2.toNat,.int .u64 c]).run Tryz.prog w=.ok (.value (.tuple #[.int .u64 (qp p q).2.toNat,.int .u64 d])) w:=fun w=>by
  have:=zc5 p.2.toNat q.2.toNat c hc1 w
  rw [← hd,hc,← zkk,← hc] at this
  exact this
 obtain ⟨z,hz⟩:∃ z,z=qp p q:=⟨_,rfl⟩
 rw [← hz] at hr1 hr2 ⊢
 have HS:=znq (St.start w)
 clear hc hd hz
 go_enter Tryz.func215,Tryz.ntmps215
 go_wp2_with (refine zh 119 _ (zQ p) _ rfl rfl rfl rfl ?_)
 intro w1 hb hbel;have HS:=znq (HS.znr.push hb hbel);have hlt1:=hb.lt;clear hb hbel
 go_wp2_with (refine zh 119 _ (zQ q) _ rfl rfl rfl rfl ?_)
 intro w2 hb hbel;have HS:=znq (HS.znr.push hb hbel);have hlt2:=hb.lt;clear hb hbel
 go_wp2_with (refine ze 119 ([L 0,L 0]) _ rfl rfl zT rfl ?_)
 intro w3 hb hbel;have HS:=znq (HS.znr.push hb hbel);have hlt3:=hb.lt;clear hb hbel
 generalize hbb:w.heap.size=bb at *
 generalize w1.heap.size=b1 at *
 generalize w2.heap.size=b2 at *
 have HBB:=znq hbb
 clear hbb
 have hx0:=(HS.znr.get 2 rfl).cell 0 (L p.1) rfl
 have hx1:=(HS.znr.get 2 rfl).cell 1 (L p.2) rfl
 have hy0:=(HS.znr.get 1 rfl).cell 0 (L q.1) rfl
 have hy1:=(HS.znr.get 1 rfl).cell 1 (L q.2) rfl
 go_wp2_with (refine (HS.znr.get 0 rfl).wstore rfl rfl rfl (cs:=zQ z) rfl zq rfl rfl (zX _) ?_)
 intro w4 hb ho
 have HE:=znq (zk HS.znr.bel ho (by omega))
 clear ho hx0 hx1 hy0 hy1
 go_wp2
 refine hb.result rfl rfl rfl zq rfl ⟨rfl,?_⟩
 rw [HBB.znr]
 exact HE.znr
end Go.Proofs.YtjaioajjfiaheaaGreatDoor
namespace Go.Adi
open Go.Ops Go.Oct Go.Prime
theorem zhz (a b:UInt64):z7 (a,b)=zz a++zz b:=rfl
theorem zm4 {m:Nat} (h:m≤1000000):(xf (UInt64.ofNat m) 3,yp (UInt64.ofNat m) 61)=wd (8*m):=by
 have hm:(UInt64.ofNat m).toNat=m:=UInt64.toNat_ofNat_of_lt' (by show m < 18446744073709551616;omega)
 unfold wd xf yp
 rw [hm]
 congr 2 <;> omega
end Go.Adi
namespace Go.Cells
open Go.RowKit
theorem St.offB {w0 w w':World} {base b:Nat} {L:List (Nat×List Value×TypeId)} (h:St w0 base w L) (ho:zI b w w') (hb:base≤b) (hne:∀ e∈L,e.1≠b):St w0 base w' L :=
 ⟨h.base_le,jP h.bel ho hb h.size,fun e he=>(h.all e he).onlyB ho (hne e he)⟩
end Go.Cells
namespace Go.Proofs.YtjaioajjfiaheaaGreatDoor
open Go.RowKit Go.Mem Go.Ops Go.Cells Go.Oct Go.Trn Go.Blake Go.Prime Go.Adi
attribute [local irreducible] zE zN zO zM yJ
theorem Kx (sb r v:Nat) (rest p:List UInt8) (k:Nat) (w:World) (hb:Blk w sb (qe r v rest k) 304) (hrl:rest.length=16) (hp:rest.take k=p) (hk:p.length=k) (hk16:k < 16) (hr:r < PP) (hv:v < PP) :
  Calls Tryz.prog 224 #[.pointer (some ⟨sb,0,none⟩)] w fun e w'=>e=.returned (.agg (zQ (xo (Z7 (qq r v p)))).toArray)∧Below w.heap.size w w':=by
 have HSB:=znq hb
 have HR:=znq hr
 have HV:=znq hv
 have HRP:=znq (show rest.length=16∧rest.take k=p∧p.length=k from ⟨hrl,hp,hk⟩)
 obtain ⟨lo,hlo⟩:∃ x,x=Z7 (qq r v p):=⟨_,rfl⟩
 have HLO:=znq (show Z7 (qq r v p)=lo∧lo.length=16 from ⟨hlo.symm,by rw [hlo];exact YA _⟩)
 have HLL:=znq (show (lo.map B).length=16 by rw [List.length_map];exact HLO.znr.2)
 have HS:=znq (St.start w)
 have hsb:=hb.lt
 rw [← hlo]
 clear hb hr hv hrl hp hk hlo
 go_enter Tryz.func224,Tryz.ntmps224
 go_wp2_with (refine ze 119 ([L 0,L 0]) _ rfl rfl zT rfl ?_)
 intro w1 hb hbel;have HS:=znq (HS.znr.push hb hbel);have hlt1:=hb.lt;clear hb hbel
 generalize hbb:w.heap.size=bb at *
 have HBB:=znq hbb
 have hbel:Below w.heap.size w w1:=by rw [hbb];exact HS.znr.bel
 have HSB:=znq (HSB.znr.below hbel (by omega))
 clear hbb hbel
 go_wp2_with fail
 refine (zm3 sb r v rest p k _ HSB.znr HRP.znr.1 HRP.znr.2.1 HRP.znr.2.2 hk16 HR.znr HV.znr).mono ?_
 rintro e w2 ⟨rfl,hbel⟩
 rw [HLO.znr.1]
 have HS:=znq (HS.znr.later hbel)
 have h1:bb < w2.heap.size:=HS.znr.ne _ (List.mem_of_getElem? (i:=0) rfl)
 clear hbel
 go_wp2_with (refine ze 117 ((zf 16).map B) _ rfl rfl zj rfl ?_)
 intro w3 hb hbel
 have HS:=znq (HS.znr.push hb hbel)
 have hlt3:=hb.lt
 clear hb hbel
 generalize w2.heap.size=b2 at *
 go_wp2_with (refine (HS.znr.get 0 rfl).wstore rfl rfl rfl (cs:=lo.map B) rfl zc (by rw [List.length_map,zd]) HLL.znr (zg _) ?_)
 intro w4 hb ho
 have HS:=znq (HS.znr.change 0 hb ho (by omega) (by simp;omega))
 clear hb ho
 go_wp2_with fail
 refine (YL (some ⟨b2,0,none⟩) 16 16 lo _ HLO.znr.2 (by omega) (HS.znr.get 0 rfl).lies).mono ?_
 rintro e w5 ⟨rfl,hbel⟩
 have HS:=znq (HS.znr.later hbel)
 clear hbel
 go_wp2_with (refine (HS.znr.get 1 rfl).wstore rfl rfl rfl (cs:=zQ (xo lo)) rfl zq rfl rfl (zX _) ?_)
 intro w6 hb ho
 have HE:=znq (zk HS.znr.bel ho (by omega))
 clear ho
 go_wp2
 refine hb.result rfl rfl rfl zq rfl ⟨rfl,?_⟩
 rw [HBB.znr]
 exact HE.znr
def ZV (kt km:List UInt8) (wv:Value):List Value:=kt.map B++km.map B++[wv]
structure Y3 (w:World) (kb:Nat) (kt km:List UInt8) (ws:List UInt32):Prop where
 blk:∃ wa wc,Blk w kb (ZV kt km (.slice wa 268 wc)) 233∧zr w wa (ws.map W)∧268≤wc
 kt16:kt.length=16
 km16:km.length=16
 ws268:ws.length=268
theorem Y3.below {w w':World} {kb:Nat} {kt km:List UInt8} {ws:List UInt32} (h:Y3 w kb kt km ws) (hb:Below w.heap.size w w'):Y3 w' kb kt km ws:=by
 obtain ⟨wa,wc,h1,h2,h3⟩:=h.blk
 exact ⟨⟨wa,wc,h1.below hb h1.lt,h2.below hb,h3⟩,h.kt16,h.km16,h.ws268⟩
theorem zh0 {kt km:List UInt8} {wv:Value} (h:kt.length=16):((ZV kt km wv).drop 0).take 16=kt.map B:=by
 unfold ZV
 rw [List.drop_zero,List.append_assoc,List.take_append_of_le_length (by rw [List.length_map,h];omega),List.take_of_length_le (by rw [List.length_map,h];omega)]
theorem zh1 {kt km:List UInt8} {wv:Value} (h:kt.length=16) (h2:km.length=16):((ZV kt km wv).drop 16).take 16=km.map B:=by
 unfold ZV
 rw [List.append_assoc,List.drop_append,List.drop_eq_nil_of_le (by rw [List.length_map,h];omega),List.nil_append,List.length_map,h,List.drop_zero,List.take_append_of_le_length (by rw [List.length_map,h2];omega),List.take_of_length_le (by rw [List.length_map,h2];omega)]
theorem zh2 {kt km:List UInt8} {wv:Value} (h:kt.length=16) (h2:km.length=16):(ZV kt km wv)[32]? = some wv:=by
 unfold ZV
 rw [List.getElem?_append_right (by simp [h,h2])]
 simp [h,h2]
theorem zm5 (kb:Nat) (kt km:List UInt8) (ws:List UInt32) (ao:Option Addr) (n cap:Nat) (tw:List UInt8) (m:Nat) (w:World) (hk:Y3 w kb kt km ws) (hn:tw.length=n) (hc:n≤cap) (hn6:n≤1000000) (hm:m≤1000000) (hl:zr w ao (tw.map B)) :
  Calls Tryz.prog 217 #[.pointer (some ⟨kb,0,none⟩),.slice ao n cap,.int .i64 m] w fun e w'=>e=.returned (.agg (zQ (vY kt tw m)).toArray)∧Below w.heap.size w w':=by
 have HN:=znq hn
 have HL:=znq hl
 obtain ⟨wa,wc,hkb,_,_⟩:=hk.blk
 have HKB:=znq hkb
 have HK16:=znq hk.kt16
 have HKV:=znq (show (kt.map B).length=16 by rw [List.length_map];exact hk.kt16)
 have hkb':=hkb.lt
 obtain ⟨r,hr⟩:∃ r,r=rOf kt:=⟨_,rfl⟩
 have HR:=znq (show rOf kt=r∧r < PP from ⟨hr.symm,by rw [hr];exact zke _⟩)
 obtain ⟨mb,hmb⟩:∃ x,x=z7 (wd (8*m)):=⟨_,rfl⟩
 have HMB:=znq (show z7 (wd (8*m))=mb∧mb.length=16 from ⟨hmb.symm,by rw [hmb];exact zZ _⟩)
 have HMV:=znq (show (mb.map B).length=16 by rw [List.length_map];exact HMB.znr.2)
 obtain ⟨um,hum⟩:∃ x,x=UInt64.ofNat m:=⟨_,rfl⟩
 have HBY:=znq (show zz (xf um 3)++zz (yp um 61)=mb∧True from ⟨by
  rw [hmb,hum,← zm4 hm,zhz],trivial⟩)
 obtain ⟨v1,p1,hA1⟩:∃ v1 p1,yO r 0 mb=(v1,p1):=⟨_,_,rfl⟩
 have HA1:=znq (And.intro hA1 trivial)
 have hs1:=jV r _ 0 mb (Nat.le_refl _) (by decide:0 < PP)
 rw [hA1] at hs1
 obtain ⟨v2,p2,hA2⟩:∃ v2 p2,yO r v1 (p1++tw)=(v2,p2):=⟨_,_,rfl⟩
 have HA2:=znq (And.intro hA2 trivial)
 have hs2:=jV r _ v1 (p1++tw) (Nat.le_refl _) hs1.1
 rw [hA2] at hs2
 have HS1:=znq (show v1 < PP∧True from ⟨hs1.1,trivial⟩)
 have HS2:=znq (show v2 < PP∧True from ⟨hs2.1,trivial⟩)
 have hp1:p1.length < 16:=hs1.2
 have hp2:p2.length < 16:=hs2.2
 have HRES:=znq (show vY kt tw m=xo (Z7 (qq r v2 p2)) from by
  unfold vY
  rw [HR.znr.1,HMB.znr.1,hA1]
  simp only []
  rw [hA2])
 rw [HRES.znr]
 have HS:=znq (St.start w)
 have hmax:(if (m:Int) < 0 then (0:Int) else (m:Int))=(m:Int):=by split <;> omega
 have hmax2:(if (0:Int) < (m:Int) then (m:Int) else 0)=(m:Int):=by split <;> omega
 have hcv:IntKind.u64.wrap (m:Int)=(um.toNat:Int):=by rw [hum];exact zbb m
 clear hn hl hk hkb hr hmb hum hA1 hA2 hs1 hs2 HRES
 go_enter Tryz.func217,Tryz.ntmps217
 go_wp2_with (refine ze 119 [L 0,L 0] _ rfl rfl zT rfl ?_)
 intro w1 hb hbel
 have HKB:=znq (HKB.znr.below hbel hkb')
 have HS:=znq (HS.znr.push hb hbel)
 have hlt1:=hb.lt
 clear hb hbel
 generalize hbb:w.heap.size=bb at *
 have HBB:=znq hbb
 clear hbb
 go_wp2_with fail
 refine (k5 (xf um 3) (yp um 61) _).mono ?_
 rintro e w2 ⟨rfl,hbel⟩
 rw [HBY.znr.1]
 have HKB:=znq (HKB.znr.below hbel HKB.znr.lt)
 have HS:=znq (HS.znr.later hbel)
 have h1:bb < w2.heap.size:=HS.znr.ne _ (List.mem_of_getElem? (i:=0) rfl)
 clear hbel hmax hmax2 hcv
 go_wp2_with (refine ze 117 ((zf 16).map B) _ rfl rfl zj rfl ?_)
 intro w3 hb hbel
 have HKB:=znq (HKB.znr.below hbel HKB.znr.lt)
 have HS:=znq (HS.znr.push hb hbel)
 have hlt3:=hb.lt
 clear hb hbel
 generalize w2.heap.size=b2 at *
 go_wp2_with (refine (HS.znr.get 0 rfl).wstore rfl rfl rfl (cs:=mb.map B) rfl zc (by rw [List.length_map,zd]) HMV.znr (zg _) ?_)
 intro w4 hb ho
 have HKB:=znq (HKB.znr.only ho (by omega))
 have HS:=znq (HS.znr.change 0 hb ho (by omega) (by simp;omega))
 clear hb ho
 go_wp2_with (refine HKB.znr.wloadAt (off:=0) rfl rfl rfl zc (zh0 HK16.znr) HKV.znr ?_)
 refine (zge kt _ HK16.znr).mono ?_
 rintro e w5 ⟨sb,rfl,hsb,hb,hbel⟩
 rw [HR.znr.1] at hb
 have HSB:=znq hb
 have h2:b2 < w4.heap.size:=HS.znr.ne _ (List.mem_of_getElem? (i:=0) rfl)
 have h3:bb < w4.heap.size:=HS.znr.ne _ (List.mem_of_getElem? (i:=1) rfl)
 have HS:=znq (HS.znr.later hbel)
 have hn1:b2≠sb:=by omega
 have hn2:bb≠sb:=by omega
 have hn3:bb≤sb:=by omega
 clear hb hbel HKB
 go_wp2_with fail
 refine (QY sb r 0 (zf 16) [] 0 (some ⟨b2,0,none⟩) 16 16 mb _ HSB.znr (zd 16) rfl rfl (by omega) HR.znr.2 (by decide) HMB.znr.2 (by omega) (by omega) (zr.farBlk (HS.znr.get 0 rfl) (by rw [List.drop_zero,List.take_length]) hn1)).mono ?_
 rintro e w6 ⟨⟨x6,rfl⟩,⟨r1,hr1l,hr1t,hb⟩,ho⟩
 rw [List.nil_append,HA1.znr.1] at hr1t hb
 have HSB:=znq hb
 have HR1:=znq (And.intro hr1l hr1t)
 have HS:=znq (HS.znr.offB ho hn3 (by simp;omega))
 clear hb hr1l hr1t ho
 go_wp2_with fail
 refine (QY sb r v1 r1 p1 p1.length ao n cap tw _ HSB.znr HR1.znr.1 HR1.znr.2 rfl hp1 HR.znr.2 HS1.znr.1 HN.znr hc hn6 (zr.far HL.znr (by rw [HBB.znr];exact HS.znr.bel) (by rw [HBB.znr];exact hn3))).mono ?_
 rintro e w7 ⟨⟨x7,rfl⟩,⟨r2,hr2l,hr2t,hb⟩,ho⟩
 rw [HA2.znr.1] at hr2t hb
 have HSB:=znq hb
 have HR2:=znq (And.intro hr2l hr2t)
 have HS:=znq (HS.znr.offB ho hn3 (by simp;omega))
 clear hb hr2l hr2t ho
 go_wp2_with fail
 refine (Kx sb r v2 r2 p2 p2.length _ HSB.znr HR2.znr.1 HR2.znr.2 rfl hp2 HR.znr.2 HS2.znr.1).mono ?_
 rintro e w8 ⟨rfl,hbel⟩
 have HS:=znq (HS.znr.later hbel)
 clear hbel
 go_wp2_with (refine (HS.znr.get 1 rfl).wstore rfl rfl rfl (cs:=zQ (xo (Z7 (qq r v2 p2)))) rfl zq rfl rfl (zX _) ?_)
 intro w9 hb ho
 have HE:=znq (zk HS.znr.bel ho (by omega))
 clear ho
 go_wp2
 refine hb.result rfl rfl rfl zq rfl ⟨rfl,?_⟩
 rw [HBB.znr]
 exact HE.znr
end Go.Proofs.YtjaioajjfiaheaaGreatDoor
namespace Go.Proofs.YtjaioajjfiaheaaGreatDoor
open Go.RowKit Go.Mem Go.Ops Go.Cells Go.Oct Go.Trn Go.Blake Go.Prime Go.Adi
attribute [local irreducible] zE zN zO zM yJ
theorem Ky (a k b l:UInt32) (w:World):Calls Tryz.prog 233 #[W a,W k,W b,W l] w fun e w'=>e=.returned (L (Qr a k b l))∧w=w':=by
 go_enter Tryz.func233,Tryz.ntmps233
 go_wp2
 go_ret
 exact ⟨rfl,rfl⟩
theorem zay:(Tryz.prog.info? 149).map (fun i=>(i.zero,i.size,i.bytes))=some (some (.int .u32 0),1,4):=by kernel_rfl
theorem zh3 (ao:Option Addr) (cap:Nat) (key:List UInt8) (w:World) (hk:key.length=1072) (hl:zr w ao (key.map B)) :
  Calls Tryz.prog 155 #[.slice ao 1072 cap] w fun e w'=>∃ b,e=.returned (.tuple #[.slice (some ⟨b,0,none⟩) 268 268,.int .i64 0])∧w.heap.size≤b∧Blk w' b ((Za key).map W) 149∧Below w.heap.size w w':=by
 have HK:=znq hk
 have HL:=znq hl
 have HS:=znq (St.start w)
 clear hk hl
 go_enter Tryz.func155,Tryz.ntmps155
 go_wp2_with (at_make;refine jJ 229 149 (.int .u32 0) 4 268 rfl rfl rfl rfl Tryz.underlying229 zay rfl rfl rfl (by omega) (by unfold maxLen;omega) ?_)
 intro w1 hb hbel
 have HS:=znq (HS.znr.push (show Blk w1 w.heap.size ((List.replicate 268 (0:UInt32)).map W) 149 from hb) hbel)
 clear hb hbel
 generalize hbb:w.heap.size=bb at *
 have HBB:=znq hbb
 clear hbb
 go_wp2
 go_loopw [12] (fun c wr=>∃ (i:Nat) (ls:List UInt32),i≤268∧c=.int .i64 i∧Hid (yg (fun i=>yU key (4*i)) 268 i ls)∧Hid (St w bb wr [(bb,ls.map W,149)])) (fun c _=>268 - (intOf c).toNat)
 case atStart=>exact ⟨0,_,by omega,rfl,znq (yg.zero (by rw [List.length_replicate])),HS⟩
 case round =>
  clear HS
  obtain ⟨i,ls,hi,rfl,HF,HS⟩:=hrel
  by_cases hlt:i < 268
  ·obtain ⟨a4,ha4⟩:∃ a,a=4*i:=⟨_,rfl⟩
   have e4:4*(i:Int)=(a4:Int):=by omega
   have ha:a4≤10000:=by omega
   have HN:=znq (show yg (fun i=>yU key (4*i)) 268 (i+1) (ls.set i (yU key a4)) from by rw [ha4];exact HF.znr.step hlt)
   clear ha4
   go_wp2_with fail
   refine (kZ ao 1072 cap a4 key _ HK.znr (by omega) (by omega) (HL.znr.below (by rw [HBB.znr];exact HS.znr.bel))).mono ?_
   rintro e w2 ⟨rfl,hbel⟩
   have HS:=znq (HS.znr.later hbel)
   clear hbel
   go_wp2_with (refine (HS.znr.get 0 rfl).wset (i:=i) (v:=W (yU key a4)) rfl rfl rfl rfl yt rfl rfl (by rw [List.length_map,HF.znr.1];exact hlt) ?_)
   intro w3 hb ho
   rw [xI] at hb
   have HS:=znq (HS.znr.change 0 hb ho (by omega) (by simp))
   clear hb ho
   go_wp2
   go_roundw
   case rel=>exact ⟨i+1,_,by omega,by go_num,HN,HS⟩
   case measure=>simp [intOf];omega
  ·obtain rfl:i=268:=by omega
   have HE:=znq (show ls=Za key∧True from ⟨HF.znr.all,trivial⟩)
   rw [HE.znr.1] at HS
   go_wp2
   go_ret2
   exact ⟨bb,rfl,by have:=HBB.znr;omega,HS.znr.get 0 rfl,by rw [HBB.znr];exact HS.znr.bel⟩
end Go.Proofs.YtjaioajjfiaheaaGreatDoor
namespace Go.Mem
open Go.RowKit
theorem zr.dropV {w:World} {ao:Option Addr} {xs:List Value} {cap:Nat} (h:zr w ao xs) (hcap:xs.length≤cap) (a:Nat):zr w (yy ao cap a) (xs.drop a):=by
 intro j u hu
 rw [List.getElem?_drop] at hu
 obtain ⟨b,off,e,hc⟩:=h (a+j) u hu
 have hj:a+j < xs.length:=(List.getElem?_eq_some_iff.1 hu).1
 subst e
 unfold yy
 rw [if_neg (by omega)]
 exact ⟨b,off+a,by simp [Addr.add],by rw [Nat.add_assoc];exact hc⟩
end Go.Mem
namespace Go.Adi
open Go.Ops Go.Oct Go.Prime Go.Trn Go.Blake
def jl (ws:List UInt32) (b:List UInt8) (u p:Nat):List UInt64:=(List.range 4).map fun q=>if q < p then zy (at64 (Zr ws b u) q) (JX ws b u q) else at64 (Zr ws b u) q
theorem kx (ws:List UInt32) (b:List UInt8) (u p:Nat):(jl ws b u p).length=4:=by simp [jl]
theorem ZW (ws:List UInt32) (b:List UInt8) (u p q:Nat) (h:q < 4):(jl ws b u p)[q]? = some (if q < p then zy (at64 (Zr ws b u) q) (JX ws b u q) else at64 (Zr ws b u) q):=by
 unfold jl
 rw [List.getElem?_map,List.getElem?_range h]
 rfl
theorem zky (ws:List UInt32) (b:List UInt8) (u:Nat):jl ws b u 0=Zr ws b u:=by
 apply List.ext_getElem?
 intro q
 rcases Nat.lt_or_ge q 4 with h | h
 ·rw [ZW ws b u 0 q h,if_neg (by omega),z9 (by rw [jW];exact h)]
 ·rw [List.getElem?_eq_none (by rw [kx];exact h),List.getElem?_eq_none (by rw [jW];exact h)]
theorem zkz (ws:List UInt32) (b:List UInt8) (u:Nat):jl ws b u 4=Zr ws b (u+1):=by
 rw [show Zr ws b (u+1)=(List.range 4).map fun p=>zy (at64 (Zr ws b u) p) (JX ws b u p) from rfl]
 unfold jl
 apply List.map_congr_left
 intro q hq
 rw [if_pos (List.mem_range.1 hq)]
theorem zdl (ws:List UInt32) (b:List UInt8) (u:Nat) {p:Nat} (hp:p < 4):(jl ws b u p).set p (zy (at64 (Zr ws b u) p) (JX ws b u p))=jl ws b u (p+1):=by
 apply List.ext_getElem?
 intro q
 rw [List.getElem?_set,kx]
 rcases Nat.lt_or_ge q 4 with h | h
 ·rw [ZW ws b u (p+1) q h]
  by_cases e:p=q
  ·subst e;rw [if_pos rfl,if_pos h,if_pos (by omega)]
  ·rw [if_neg e,ZW ws b u p q h]
   by_cases h2:q < p
   ·rw [if_pos h2,if_pos (by omega)]
   ·rw [if_neg h2,if_neg (by omega)]
 ·rw [if_neg (by omega),List.getElem?_eq_none (by rw [kx];exact h),List.getElem?_eq_none (by rw [kx];exact h)]
def Y4 (s:List UInt64) (p:Nat):List UInt8:=(s.take p).flatMap zz++zf (32 - 8*p)
theorem YH {s:List UInt64} (hs:s.length=4) {p:Nat} (hp:p≤4):(Y4 s p).length=32:=by
 unfold Y4
 rw [List.length_append,qy,List.length_take,zd,hs]
 omega
theorem zh4 {s:List UInt64} (hs:s.length=4) {p:Nat} {x:UInt64} (hp:p < 4) (hx:s[p]? = some x):splice (Y4 s p) (8*p) (zz x)=Y4 s (p+1):=by
 have hl:((s.take p).flatMap zz).length=8*p:=by rw [qy,List.length_take,hs];omega
 unfold splice Y4
 rw [List.take_append_of_le_length (by omega),List.take_of_length_le (by omega),List.drop_append,List.drop_eq_nil_of_le (by rw [zK];omega),List.nil_append,zK,hl,List.take_add_one,hx,List.flatMap_append]
 simp only [Option.toList,List.flatMap_cons,List.flatMap_nil,List.append_nil,List.append_assoc]
 congr 2
 unfold zf
 rw [List.drop_replicate]
 congr 1
 omega
end Go.Adi
namespace Go.Proofs.YtjaioajjfiaheaaGreatDoor
open Go.RowKit Go.Mem Go.Ops Go.Cells Go.Oct Go.Trn Go.Blake Go.Prime Go.Adi
attribute [local irreducible] zE zN zO zM yJ
theorem zfg:Row Tryz.prog 306 4:=⟨by kernel_rfl,by kernel_rfl⟩
theorem zfh:Row Tryz.prog 307 4:=⟨by kernel_rfl,by kernel_rfl⟩
theorem zdm:(Tryz.prog.info? 306).map (·.zero)=some (some (.agg (([0,0,0,0]:List UInt64).map L).toArray)):=by kernel_rfl
theorem zdn:(Tryz.prog.info? 307).map (·.zero)=some (some (.agg (([0,0,0,0]:List UInt32).map W).toArray)):=by kernel_rfl
theorem zm6 (a b c d:UInt32):Tryz.prog.built 307 [(0,W a),(1,W b),(2,W c),(3,W d)]=some (([a,b,c,d]:List UInt32).map W).toArray:=by kernel_rfl
abbrev zgf (b4 b6 b7:Nat) (wa:Option Addr) (wc:Nat) (ao:Option Addr) (n c a:Nat) (us:Nat→Value):Act:={ tmps:=#[.slice wa 268 wc,.slice ao n c,us 2,us 3,.pointer (some ⟨b4,0,none⟩),us 5,.pointer (some ⟨b6,0,none⟩),.pointer (some ⟨b7,0,none⟩),.int .i64 a,us 9,us 10,us 11,us 12,us 13,us 14,us 15,us 16,us 17,us 18,us 19,us 20,us 21,us 22,us 23,us 24,us 25,us 26,us 27,us 28,us 29,us 30,us 31,us 32,us 33,us 34,us 35,us 36,us 37,us 38,us 39,us 40,us 41,us 42,us 43,us 44,us 45,us 46,us 47,us 48,us 49,us 50,us 51,us 52,us 53,us 54,us 55,us 56,us 57,us 58,us 59,us 60,us 61,us 62,us 63,us 64,us 65,us 66,us 67,us 68,us 69,us 70,us 71,us 72,us 73,us 74,us 75,us 76,us 77,us 78,us 79,us 80,us 81,us 82,us 83,us 84,us 85,us 86,us 87,us 88,us 89,us 90,us 91,us 92,us 93,us 94,us 95,us 96,us 97,us 98,us 99,us 100,us 101,us 102,us 103,us 104,us 105,us 106,us 107,us 108,us 109,us 110,us 111],defers:=[] }
def NhAt (ws:List UInt32) (b:List UInt8) (wa:Option Addr) (wc:Nat) (ao:Option Addr) (n c bb:Nat) (w:World) (x:Act) (wr:World):Prop :=
 ∃ (us:Nat→Value) (b6 b7 a u:Nat),x=zgf bb b6 b7 wa wc ao n c a us∧bb < b6∧b6 < b7∧a≤n∧Hid (a=16*u)∧Hid (St w bb wr [(b7,(Zr ws b u).map L,306),(b6,(zf 32).map B,186),(bb,(zf 32).map B,186)])
theorem NhAt.intro {ws:List UInt32} {b:List UInt8} {wa:Option Addr} {wc:Nat} {ao:Option Addr} {n c bb:Nat} {w:World} {x:Act} {wr:World} (b6 b7 a u:Nat) (hx:x=zgf bb b6 b7 wa wc ao n c a (fun i=>x.tmps.getD i undef)) (h1:bb < b6) (h2:b6 < b7) (h3:a≤n) (h4:a=16*u)
  (h5:St w bb wr [(b7,(Zr ws b u).map L,306),(b6,(zf 32).map B,186),(bb,(zf 32).map B,186)]):NhAt ws b wa wc ao n c bb w x wr:=⟨_,b6,b7,a,u,hx,h1,h2,h3,h4,h5⟩
theorem zk0 (ws:List UInt32) (wa:Option Addr) (wc:Nat) (ao:Option Addr) (n cap:Nat) (b:List UInt8) (w:World) (hws:ws.length=268) (hwc:268≤wc) (hlw:zr w wa (ws.map W)) (hn:b.length=n) (h1024:n≤1024) (h16:n % 16=0) (hl:zr w ao (b.map B)) :
  Calls Tryz.prog 227 #[.slice wa 268 wc,.slice ao n cap] w fun e w'=>e=.returned (.tuple #[.agg ((nh ws b).map B).toArray,.int .i64 0])∧Below w.heap.size w w':=by
 have HN:=znq hn
 have HL:=znq hl
 have HWS:=znq hws
 have HLW:=znq hlw
 obtain ⟨U,hU⟩:∃ U,n=16*U:=⟨n / 16,by omega⟩
 have HU:=znq hU
 obtain ⟨U4,hU4⟩:∃ x,x=U*4:=⟨_,rfl⟩
 obtain ⟨U12,hU12⟩:∃ x,x=U4+12:=⟨_,rfl⟩
 have d1:decide ((n:Int) > 1024)=false:=by simp;omega
 have e1:(n:Int).tmod 16=0:=by rw [Int.tmod_eq_emod_of_nonneg (by omega)];omega
 have e1':(n:Int) % 16=0:=by omega
 have e2:(n:Int).tdiv 16=(U:Int):=by rw [Int.tdiv_eq_ediv_of_nonneg (by omega)];omega
 have e2':(n:Int) / 16=(U:Int):=by omega
 have e3:(U:Int)*4=(U4:Int):=by omega
 have e4:(U4:Int)+12=(U12:Int):=by omega
 have d2:decide ((268:Int) < (U12:Int))=false:=by simp;omega
 have hU12b:U12≤268:=by omega
 have HS:=znq (St.start w)
 clear hn hl hws hlw hU hU4 hU12 h16
 go_enter Tryz.func227,Tryz.ntmps227
 go_wp2_with (refine ze 186 ((zf 32).map B) _ rfl rfl qA rfl ?_)
 intro w1 hb hbel
 have HS:=znq (HS.znr.push hb hbel)
 have hlt1:=hb.lt
 clear hb hbel
 generalize hbb:w.heap.size=bb at *
 have HBB:=znq hbb
 clear hbb
 go_wp2_with fail
 refine yd 0 (NhAt ws b wa wc ao n cap bb w) (fun x _=>n - (intOf (x.tmps.getD 8 undef)).toNat) rfl ?_ ?_
 ·simp only [q9]
  go_wp2_with (refine ze 186 ((zf 32).map B) _ rfl rfl qA rfl ?_)
  intro w2 hb hbel
  have HS:=znq (HS.znr.push hb hbel)
  have hlt2:=hb.lt
  clear hb hbel
  generalize w1.heap.size=b6 at *
  go_wp2_with (refine ze 306 (([0,0,0,0]:List UInt64).map L) _ rfl rfl zdm rfl ?_)
  intro w3 hb hbel
  have HS:=znq (HS.znr.push hb hbel)
  clear hb hbel
  generalize w2.heap.size=b7 at *
  go_wp2
  exact NhAt.intro b6 b7 0 0 rfl hlt1 hlt2 (by omega) rfl HS.znr
 ·clear HS e1 e1' e2 e2' e3 e4 d1 d2
  rintro x wr ⟨us,b6,b7,a,u,rfl,h46,h67,han,HA,HS⟩
  by_cases hlt:a < n
  ·have d0:decide ((a:Int) < (n:Int))=true:=by simp;omega
   obtain ⟨x4,hx4⟩:∃ x,x=a+4:=⟨_,rfl⟩
   obtain ⟨x8,hx8⟩:∃ x,x=a+8:=⟨_,rfl⟩
   obtain ⟨x12,hx12⟩:∃ x,x=a+12:=⟨_,rfl⟩
   obtain ⟨a',ha'⟩:∃ x,x=a+16:=⟨_,rfl⟩
   have f4:(a:Int)+4=(x4:Int):=by omega
   have f8:(a:Int)+8=(x8:Int):=by omega
   have f12:(a:Int)+12=(x12:Int):=by omega
   have f16:(a:Int)+16=(a':Int):=by omega
   have hxb:x4≤10000∧x8≤10000∧x12≤10000:=by omega
   have hub:u≤63:=by have:=HA.znr;omega
   have HAX:=znq (show a'=16*(u+1)∧a'≤n from by have:=HA.znr;have:=HU.znr;omega)
   obtain ⟨m0,hm0⟩:∃ x,x=yU b a:=⟨_,rfl⟩
   obtain ⟨m1,hm1⟩:∃ x,x=yU b x4:=⟨_,rfl⟩
   obtain ⟨m2,hm2⟩:∃ x,x=yU b x8:=⟨_,rfl⟩
   obtain ⟨m3,hm3⟩:∃ x,x=yU b x12:=⟨_,rfl⟩
   have HM:=znq (show (yU b a=m0∧yU b x4=m1∧yU b x8=m2∧yU b x12=m3)∧(x4=a+4∧x8=a+8∧x12=a+12) from ⟨⟨hm0.symm,hm1.symm,hm2.symm,hm3.symm⟩,hx4,hx8,hx12⟩)
   clear hm0 hm1 hm2 hm3 hx4 hx8 hx12 ha'
   have han1:a≤10000:=by omega
   obtain ⟨hxb4,hxb8,hxb12⟩:=hxb
   have HBEL:=znq (show ∀ wz,St w bb wz [(b7,(Zr ws b u).map L,306),(b6,(zf 32).map B,186),(bb,(zf 32).map B,186)]→Below w.heap.size w wz from fun wz h=>by rw [HBB.znr];exact h.bel)
   go_wp2_with fail
   refine (kZ ao n cap a b _ HN.znr (by omega) (by omega) (HL.znr.below (HBEL.znr _ HS.znr))).mono ?_
   rintro e w4 ⟨rfl,hbel⟩
   rw [HM.znr.1.1]
   have HS:=znq (HS.znr.later hbel)
   clear hbel
   go_wp2_with fail
   refine (kZ ao n cap x4 b _ HN.znr (by omega) (by omega) (HL.znr.below (HBEL.znr _ HS.znr))).mono ?_
   rintro e w5 ⟨rfl,hbel⟩
   rw [HM.znr.1.2.1]
   have HS:=znq (HS.znr.later hbel)
   clear hbel
   go_wp2_with fail
   refine (kZ ao n cap x8 b _ HN.znr (by omega) (by omega) (HL.znr.below (HBEL.znr _ HS.znr))).mono ?_
   rintro e w6 ⟨rfl,hbel⟩
   rw [HM.znr.1.2.2.1]
   have HS:=znq (HS.znr.later hbel)
   clear hbel
   go_wp2_with fail
   refine (kZ ao n cap x12 b _ HN.znr (by omega) (by omega) (HL.znr.below (HBEL.znr _ HS.znr))).mono ?_
   rintro e w7 ⟨rfl,hbel⟩
   rw [HM.znr.1.2.2.2]
   have HS:=znq (HS.znr.later hbel)
   have g1:b7 < w7.heap.size:=HS.znr.ne _ (List.mem_of_getElem? (i:=0) rfl)
   clear hbel
   have hbu:=zm6 m0 m1 m2 m3
   go_wp2_with (refine ze 307 (([0,0,0,0]:List UInt32).map W) _ rfl rfl zdn rfl ?_)
   intro w8 hb hbel
   have HS:=znq (HS.znr.push hb hbel)
   have hlt8:=hb.lt
   clear hb hbel
   generalize w7.heap.size=b9 at *
   go_wp2_with (refine (HS.znr.get 0 rfl).wstore rfl rfl rfl (cs:=([m0,m1,m2,m3]:List UInt32).map W) rfl zfh rfl rfl (yT _) ?_)
   intro w9 hb ho
   have HS:=znq (HS.znr.change 0 hb ho (by omega) (by simp;omega))
   clear hb ho hbu f4 f8 f12
   go_wp2
   go_loopw [56] (fun c wr=>∃ (p:Nat),p≤4∧c=.int .i64 p∧Hid (St w bb wr [(b9,([m0,m1,m2,m3]:List UInt32).map W,307),(b7,(jl ws b u p).map L,306),(b6,(zf 32).map B,186),(bb,(zf 32).map B,186)])) (fun c _=>4 - (intOf c).toNat)
   case atStart=>exact ⟨0,by omega,rfl,znq (by rw [zky];exact HS.znr)⟩
   case round =>
    clear HS
    obtain ⟨p,hp,rfl,HS⟩:=hrel
    by_cases hlp:p < 4
    ·obtain ⟨u4,hu4⟩:∃ x,x=u*4:=⟨_,rfl⟩
     obtain ⟨p4,hp4⟩:∃ x,x=p*4:=⟨_,rfl⟩
     obtain ⟨z,hz⟩:∃ x,x=u4+p4:=⟨_,rfl⟩
     have e2:(a:Int).tdiv 16=(u:Int):=by have:=HA.znr;rw [Int.tdiv_eq_ediv_of_nonneg (by omega)];omega
     have e2':(a:Int) / 16=(u:Int):=by have:=HA.znr;omega
     have e3:(u:Int)*4=(u4:Int):=by omega
     have e4:(p:Int)*4=(p4:Int):=by omega
     have e5:(u4:Int)+(p4:Int)=(z:Int):=by omega
     have hz1:z+4≤268:=by omega
     have hz2:z≤268:=by omega
     have HZ:=znq (show z=4*u+4*p∧True from ⟨by omega,trivial⟩)
     clear hu4 hp4 hz
     obtain ⟨ln,hln⟩:∃ x,x=268 - z:=⟨_,rfl⟩
     obtain ⟨cn,hcn⟩:∃ x,x=wc - z:=⟨_,rfl⟩
     have hln4:4≤ln:=by omega
     have HLZ:=znq (show zr w (yy wa wc z) ((ws.map W).drop z) from HLW.znr.dropV (by rw [List.length_map,HWS.znr];exact hwc) z)
     obtain ⟨sa,hsa⟩:∃ x,x=yy wa wc z:=⟨_,rfl⟩
     rw [← hsa] at HLZ
     obtain ⟨c0,hc0⟩:∃ x,x=yR ws z:=⟨_,rfl⟩
     obtain ⟨c1,hc1⟩:∃ x,x=yR ws (z+1):=⟨_,rfl⟩
     obtain ⟨c2,hc2⟩:∃ x,x=yR ws (z+2):=⟨_,rfl⟩
     obtain ⟨c3,hc3⟩:∃ x,x=yR ws (z+3):=⟨_,rfl⟩
     have hgd:∀ j,j < 4→((ws.map W).drop z)[j]? = some (W (yR ws (z+j))):=fun j hj=>by
      rw [List.getElem?_drop]
      exact kz (qO (l:=ws) (i:=z+j) (by rw [HWS.znr];omega))
     obtain ⟨sb,so,hsb,hbw,hcell⟩:=HLZ.znr.at (by intro e;have:=hgd 0 (by omega);rw [e] at this;cases this)
     have hsl:∀ w':World,(Instr.slice 229 (.slice wa 268 wc) (some (.int .i64 z)) none none).run Tryz.prog w'=.ok (.slice (some ⟨sb,so,none⟩) ln cn) w':=fun w'=>by
      have:=yv (P:=Tryz.prog) w' 229 149 1 Tryz.underlying229 yt wa 268 wc z z rfl hz2
      rw [this,← hsa,hsb,hln,hcn]
     have HUN:=znq (show zy (Qr m0 c0 m2 c2) (Qr m1 c1 m3 c3)=JX ws b u p∧True from ⟨by
      unfold JX
      have h1:=HM.znr.1
      have h2:=HM.znr.2
      have h3:=HA.znr
      have h4:=HZ.znr.1
      rw [hc0,hc1,hc2,hc3,← h1.1,← h1.2.1,← h1.2.2.1,← h1.2.2.2,h2.1,h2.2.1,h2.2.2,h3,h4],trivial⟩)
     have HSG:=znq (show (jl ws b u p)[p]? = some (at64 (Zr ws b u) p) from by rw [ZW ws b u p p hlp,if_neg (by omega)])
     have HSN:=znq (show (jl ws b u p).set p (zy (at64 (Zr ws b u) p) (zy (Qr m0 c0 m2 c2) (Qr m1 c1 m3 c3)))=jl ws b u (p+1)∧(jl ws b u p).length=4 from ⟨by rw [HUN.znr.1];exact zdl ws b u hlp,kx _ _ _ _⟩)
     have HCE:=znq (show (∀ (wz:World),Below w.heap.size w wz→wz.cell? ⟨sb,so,none⟩=some (W c0)∧wz.cell? ⟨sb,so+1,none⟩=some (W c1)∧wz.cell? ⟨sb,so+2,none⟩=some (W c2)∧wz.cell? ⟨sb,so+3,none⟩=some (W c3)) from fun wz hbz=>by
      have hq:=fun j (hj:j < 4)=>(hbz.cell (p:=⟨sb,so+j,none⟩) hbw).trans (hcell j _ (hgd j hj))
      exact ⟨by rw [hc0];exact hq 0 (by omega),by rw [hc1];exact hq 1 (by omega),by rw [hc2];exact hq 2 (by omega),by rw [hc3];exact hq 3 (by omega)⟩)
     clear hln hcn hsa hsb hcell hgd hc0 hc1 hc2 hc3 hbw
     go_wp2_with fail
     have HSD:=HS.znr.drew
     have hk:∀ (x:zG wr.drew),Below w.heap.size w x.val:=fun x=>by have:=(HSD.later x.later).bel;rw [HBB.znr];exact this
     have k0:=fun (x:zG wr.drew)=>(HCE.znr _ (hk x)).1
     have k1:=fun (x:zG wr.drew)=>(HCE.znr _ (hk x)).2.1
     have k2:=fun (x:zG wr.drew)=>(HCE.znr _ (hk x)).2.2.1
     have k3:=fun (x:zG wr.drew)=>(HCE.znr _ (hk x)).2.2.2
     have q0:=fun (x:zG wr.drew)=>((HSD.later x.later).get 0 rfl).cell 0 (W m0) rfl
     have q1:=fun (x:zG wr.drew)=>((HSD.later x.later).get 0 rfl).cell 1 (W m1) rfl
     have q2:=fun (x:zG wr.drew)=>((HSD.later x.later).get 0 rfl).cell 2 (W m2) rfl
     have q3:=fun (x:zG wr.drew)=>((HSD.later x.later).get 0 rfl).cell 3 (W m3) rfl
     have qs:=fun (x:zG wr.drew)=>((HSD.later x.later).get 1 rfl).cell p _ (yz HSG.znr)
     clear HSD hk
     refine zn [0,1,2,3,4,5,6,7,8,9,10,11,12,14,15,16,17,18,19,20,21,22,23,13,24,25,26,27,28] (by kernel_rfl) (by kernel_rfl) ?_
     rintro w12 rfl
     refine mqR ?_
     clear k0 k1 k2 k3 q0 q1 q2 q3 qs
     have HS:=znq HS.znr.drew
     refine zi rfl rfl (by rfl) (fun K hK=>?_)
     go_simp
     refine (Ky m0 c0 m2 c2 _).mono ?_
     rintro e w13 ⟨rfl,rfl⟩
     go_simp
     refine hK _ _ (zW.refl _) ?_
     clear hK K
     refine zi rfl rfl (by rfl) (fun K hK=>?_)
     go_simp
     refine (Ky m1 c1 m3 c3 _).mono ?_
     rintro e w13 ⟨rfl,rfl⟩
     go_simp
     refine hK _ _ (zW.refl _) ?_
     clear hK K
     refine mqR ?_
     refine zp rfl rfl (by rfl) (fun K hK=>?_)
     refine (HS.znr.get 1 rfl).opset (i:=p) (v:=L (zy (at64 (Zr ws b u) p) (zy (Qr m0 c0 m2 c2) (Qr m1 c1 m3 c3)))) rfl rfl rfl zR rfl rfl (by rw [List.length_map,HSN.znr.2];exact hlp) (fun w13 hb ho=>hK _ _ ?_)
     clear hK K
     rw [y7,HSN.znr.1] at hb
     have HS:=znq (HS.znr.change 1 hb ho (by omega) (by simp;omega))
     clear hb ho
     go_simp
     refine zo ?_
     go_wp2
     go_roundw
     case rel=>exact ⟨p+1,by omega,by go_num,HS⟩
     case measure=>simp [intOf];omega
    ·obtain rfl:p=4:=by omega
     rw [zkz] at HS
     go_wp2
     refine wp_goto ⟨rfl,NhAt.intro b6 b7 a' (u+1) rfl h46 h67 HAX.znr.2 HAX.znr.1 HS.znr.tail,?_⟩
     have:=HAX.znr
     simp [intOf];omega
  ·have d0:decide ((a:Int) < (n:Int))=false:=by simp;omega
   obtain ⟨S,hS⟩:∃ x,x=Zr ws b u:=⟨_,rfl⟩
   have HSS:=znq (show S.length=4∧nh ws b=Y4 S 4 from ⟨by rw [hS];exact jW _ _ _,by
    have h1:=HA.znr
    have h2:=HU.znr
    unfold nh Y4
    rw [HN.znr,show n / 16=u by omega,← hS,List.take_of_length_le (by rw [hS,jW];exact Nat.le_refl _)]
    show _=_++zf 0
    rw [show zf 0=[] from rfl,List.append_nil]⟩)
   rw [← hS] at HS
   clear hS
   have HSV:=znq (show (S.map L).length=4 by rw [List.length_map];exact HSS.znr.1)
   have HZ:=znq (show Y4 S 0=zf 32∧True from ⟨rfl,trivial⟩)
   rw [← HZ.znr.1] at HS
   go_wp2_with (refine (HS.znr.get 0 rfl).wload rfl rfl rfl zfg HSV.znr ?_)
   go_wp2
   go_loopw [99] (fun c wr=>∃ (p:Nat),p≤4∧c=.int .i64 p∧Hid (St w bb wr [(b7,S.map L,306),(b6,(Y4 S p).map B,186),(bb,(Y4 S 0).map B,186)])) (fun c _=>4 - (intOf c).toNat)
   case atStart=>exact ⟨0,by omega,rfl,HS⟩
   case round =>
    clear HS
    obtain ⟨p,hp,rfl,HS⟩:=hrel
    by_cases hlp:p < 4
    ·have hix:S[p]? = some (at64 S p):=z9 (by rw [HSS.znr.1];exact hlp)
     have hix2:(S.map L).toArray[p]? = some (L (at64 S p)):=by rw [List.getElem?_toArray];exact yz hix
     obtain ⟨x,hx⟩:∃ x,x=at64 S p:=⟨_,rfl⟩
     rw [← hx] at hix hix2
     have hrun:=fun (w':World)=>qF (P:=Tryz.prog) w' 306 99 4 (S.map L).toArray .i64 p (L x) Tryz.underlying306 (by kernel_rfl) zR hix2 hlp
     have HST:=znq (show splice (Y4 S p) (8*p) (zz x)=Y4 S (p+1)∧(Y4 S p).length=32 from ⟨zh4 HSS.znr.1 hlp hix,YH HSS.znr.1 (by omega)⟩)
     have HPL:=znq (show ((zz x).map B).length=8 by rw [List.length_map,zK])
     obtain ⟨p8,hp8⟩:∃ y,y=8*p:=⟨_,rfl⟩
     have e8:8*(p:Int)=(p8:Int):=by omega
     rw [← hp8] at HST
     have hp24:p8≤24:=by omega
     clear hix hix2 hx hp8
     go_wp2_with fail
     refine (kH x _).mono ?_
     rintro e w4 ⟨rfl,hbel⟩
     have HS:=znq (HS.znr.later hbel)
     have g1:b7 < w4.heap.size:=HS.znr.ne _ (List.mem_of_getElem? (i:=0) rfl)
     clear hbel hrun
     go_wp2_with (refine ze 97 ((zf 8).map B) _ rfl rfl vJ rfl ?_)
     intro w5 hb hbel
     have HS:=znq (HS.znr.push hb hbel)
     have hlt5:=hb.lt
     clear hb hbel
     generalize w4.heap.size=b9 at *
     go_wp2_with (refine (HS.znr.get 0 rfl).wstore rfl rfl rfl (cs:=(zz x).map B) rfl kM (by rw [List.length_map,zd]) HPL.znr (zg _) ?_)
     intro w6 hb ho
     have HS:=znq (HS.znr.change 0 hb ho (by omega) (by simp;omega))
     clear hb ho
     have hs1:=fun (w':World)=>yY (P:=Tryz.prog) w' 186 5 32 Tryz.underlying186 zl b6 0 p8 p8 rfl (by omega)
     go_wp2_with fail
     refine zn [0,1,2,3,4] (by kernel_rfl) (by kernel_rfl) ?_
     rintro w7 rfl
     refine mqR ?_
     clear hs1
     have HS:=znq HS.znr.drew
     refine zp rfl rfl (by rfl) (fun K hK=>?_)
     refine (HS.znr.get 2 rfl).opcopy p8 ((zz x).map B) rfl rfl rfl Tryz.underlying22 zl (fun _=>by simp) (HS.znr.get 0 rfl).lies (by rw [HPL.znr];exact (Nat.min_eq_left (by omega)).symm) (by rw [HPL.znr,List.length_map,HST.znr.2];omega) (zg _) (fun w8 hb ho=>hK _ _ ?_)
     clear hK K
     rw [xV,HST.znr.1] at hb
     have HS:=znq (HS.znr.change 2 hb ho (by omega) (by simp;omega))
     clear hb ho
     go_simp
     refine zo ?_
     go_wp2
     go_roundw
     case rel=>exact ⟨p+1,by omega,by go_num,HS.znr.tail⟩
     case measure=>simp [intOf];omega
    ·obtain rfl:p=4:=by omega
     have HOV:=znq (show ((Y4 S 4).map B).length=32 by rw [List.length_map];exact YH HSS.znr.1 (by omega))
     have HRE:=znq (show nh ws b=Y4 S 4∧True from ⟨HSS.znr.2,trivial⟩)
     go_wp2_with (first | (refine (HS.znr.get 1 rfl).wload rfl rfl rfl yP HOV.znr ?_) | (refine (HS.znr.get 2 rfl).wstore rfl rfl rfl (cs:=(Y4 S 4).map B) rfl yP (by rw [List.length_map];exact YH HSS.znr.1 (by omega)) HOV.znr (zg _) ?_))
     intro w8 hb ho
     have HE:=znq (zk HS.znr.bel ho (by omega))
     clear ho
     go_wp2
     try rw [Exit.jump_ret]
     refine hb.result2 (v:=.int .i64 0) rfl rfl rfl rfl yP HOV.znr ⟨by rw [HRE.znr.1],?_⟩
     rw [HBB.znr]
     exact HE.znr
end Go.Proofs.YtjaioajjfiaheaaGreatDoor
namespace Go.Adi
open Go.Ops Go.Oct Go.Prime
theorem Vg (ws:List UInt32) (r v:Nat) (p:List UInt8):qz ws r v p []=(v,p):=by unfold qz;simp
theorem Kz {ws:List UInt32} {r v:Nat} {p d:List UInt8} (h:d.length≠0):qz ws r v p d=qz ws r (yO r v (p++nh ws (d.take 1024))).1 (yO r v (p++nh ws (d.take 1024))).2 (d.drop 1024):=by
 conv=>lhs;unfold qz
 rw [dif_neg h]
theorem KA (ws:List UInt32) (r:Nat):∀ (n v:Nat) (p d:List UInt8),d.length≤n→v < PP→p.length < 16→(qz ws r v p d).1 < PP∧(qz ws r v p d).2.length < 16
 | n,v,p,d,h,hv,hp=>by
  by_cases h0:d.length=0
  ·rw [List.eq_nil_of_length_eq_zero h0,Vg];exact ⟨hv,hp⟩
  ·rw [Kz h0]
   have h1:=jV r _ v (p++nh ws (d.take 1024)) (Nat.le_refl _) hv
   match n,h with
   | 0,h=>omega
   | n+1,h=>exact KA ws r n _ _ _ (by rw [List.length_drop];omega) h1.1 h1.2
end Go.Adi
namespace Go.Proofs.YtjaioajjfiaheaaGreatDoor
open Go.RowKit Go.Mem Go.Ops Go.Cells Go.Oct Go.Trn Go.Blake Go.Prime Go.Adi
attribute [local irreducible] zE zN zO zM yJ
structure EnvA (w:World) (b2 b5 kb sb:Nat) (kt km:List UInt8) (ws:List UInt32):Prop where
 k:Blk w b2 [.pointer (some ⟨kb,0,none⟩)] 188
 s:Blk w b5 [.pointer (some ⟨sb,0,none⟩)] 295
 key:Y3 w kb kt km ws
theorem Y3.far {w0 w:World} {kb sb:Nat} {kt km:List UInt8} {ws:List UInt32} (h:Y3 w0 kb kt km ws) (hb:Below w0.heap.size w0 w) (hsb:w0.heap.size≤sb):∀ w',zI sb w w'→Y3 w' kb kt km ws:=by
 intro w' ho
 obtain ⟨wa,wc,h1,h2,h3⟩:=h.blk
 have hlt:=h1.lt
 exact ⟨⟨wa,wc,((h1.below hb hlt).onlyB ho (by omega)),zr.far h2 hb hsb w' ho,h3⟩,h.kt16,h.km16,h.ws268⟩
theorem zh5 (b2 b5 kb sb r v k:Nat) (kt km:List UInt8) (ws:List UInt32) (rest p:List UInt8) (ao:Option Addr) (n cap:Nat) (d:List UInt8) (w:World) (hE:∀ w',zI sb w w'→EnvA w' b2 b5 kb sb kt km ws) (hb:Blk w sb (qe r v rest k) 304) (hrl:rest.length=16) (hp:rest.take k=p) (hk:p.length=k) (hk16:k < 16) (hr:r < PP) (hv:v < PP)
  (hn:d.length=n) (h1024:n≤1024) (h16:n % 16=0) (hl:zr w ao (d.map B)) :
  Calls Tryz.prog 226 #[.slice ao n cap,.pointer (some ⟨b2,0,none⟩),.pointer (some ⟨b5,0,none⟩)] w fun e w'=>(∃ x,e=.returned x)∧(∃ rest',rest'.length=16∧rest'.take (yO r v (p++nh ws d)).2.length=(yO r v (p++nh ws d)).2∧Blk w' sb (qe r (yO r v (p++nh ws d)).1 rest' (yO r v (p++nh ws d)).2.length) 304)∧zI sb w w':=by
 have hE0:=hE w (zI.refl _ _)
 obtain ⟨wa,wc,hkb,hlw,hwc⟩:=hE0.key.blk
 have hc2:=hE0.k.cell 0 _ rfl
 have hck:=hkb.cell 32 _ (zh2 hE0.key.kt16 hE0.key.km16)
 have HWS:=znq hE0.key.ws268
 have HLW:=znq hlw
 have HE:=znq hE
 have HSB:=znq hb
 have HO:=znq (zI.refl sb w)
 have HR:=znq hr
 have HV:=znq hv
 have HN:=znq hn
 have HL:=znq hl
 have HRP:=znq (show rest.length=16∧rest.take k=p∧p.length=k from ⟨hrl,hp,hk⟩)
 have hsb:=hb.lt
 obtain ⟨hh,hhh⟩:∃ x,x=nh ws d:=⟨_,rfl⟩
 have HH:=znq (show nh ws d=hh∧hh.length=32 from ⟨hhh.symm,by rw [hhh];exact zhl _ _⟩)
 have HHV:=znq (show (hh.map B).length=32 by rw [List.length_map];exact HH.znr.2)
 rw [← hhh]
 clear hb hr hv hn hl hrl hp hk hE hE0 hkb hlw hhh
 go_enter Tryz.func226,Tryz.ntmps226
 go_wp2_with fail
 refine (zk0 ws wa wc ao n cap d _ HWS.znr hwc HLW.znr HN.znr h1024 h16 HL.znr).mono ?_
 rintro e w1 ⟨rfl,hbel⟩
 rw [HH.znr.1]
 have HSB:=znq (HSB.znr.below hbel hsb)
 have HO:=znq (HO.znr.trans (zI.of_below hbel))
 have hsb1:=HSB.znr.lt
 have hz1:=hbel.size
 clear hbel hc2 hck
 go_wp2_with (refine ze 186 ((zf 32).map B) _ rfl rfl qA rfl ?_)
 intro w2 hb hbel
 have HX:=znq hb
 have HSB:=znq (HSB.znr.below hbel hsb1)
 have HO:=znq (HO.znr.trans (zI.of_below hbel))
 clear hb hbel
 generalize hb1:w1.heap.size=b1 at *
 clear hb1
 go_wp2_with (refine HX.znr.wstore rfl rfl rfl (cs:=hh.map B) rfl yP (by rw [List.length_map,zd]) HHV.znr (zg _) ?_)
 intro w3 hb ho
 have HX:=znq hb
 have HSB:=znq (HSB.znr.only ho (by omega))
 have HO:=znq (HO.znr.other ho hz1)
 clear hb ho
 have hc5:=fun (x:xR (fun u v=>Below u.heap.size u v) w3.drew)=>(HE.znr x.val ((HO.znr.trans (zI.of_below (Below.refl _ _).drew)).trans (zI.of_below x.2))).s.cell 0 _ rfl
 go_wp2_with fail
 refine kW (fun u v=>Below u.heap.size u v) [2] [(0,1),(1,2),(2,0)] (fun a=>Below.refl _ a) (fun _ _ _ h1 h2=>h1.trans (h2.mono h1.size)) (by kernel_rfl) (by kernel_rfl) ?_
 rintro w4 rfl
 refine mqN ?_
 clear hc5
 have HX:=znq HX.znr.drew
 have HSB:=znq HSB.znr.drew
 have HO:=znq HO.znr.drew
 refine yS rfl (by rfl) (fun K hK=>?_)
 go_simp
 refine (QY sb r v rest p k (some ⟨b1,0,none⟩) 32 32 hh _ HSB.znr HRP.znr.1 HRP.znr.2.1 HRP.znr.2.2 hk16 HR.znr HV.znr HH.znr.2 (by omega) (by omega) (zr.farBlk HX.znr (by rw [List.drop_zero,List.take_length]) (by omega))).mono ?_
 rintro e w5 ⟨⟨x5,rfl⟩,hres,ho⟩
 have HRES:=znq hres
 have HO:=znq (HO.znr.trans ho)
 clear hres ho
 go_simp
 refine hK _ _ (fun h=>by cases h) ?_
 clear hK K
 refine jA ?_
 go_wp2
 go_end0
 exact ⟨⟨_,rfl⟩,HRES.znr,HO.znr⟩
abbrev zaz (sl f:Value) (us:Nat→Value):Act:={ tmps:=#[sl,f,us 2,us 3,us 4,us 5,us 6,us 7,us 8,us 9,us 10,us 11,us 12,us 13,us 14,us 15,us 16,us 17,us 18],defers:=[] }
def PcAt (sb r:Nat) (ws:List UInt32) (f:Value) (fin:Nat×List UInt8) (w:World) (x:Act) (wr:World):Prop :=
 ∃ (us:Nat→Value) (ao:Option Addr) (n c:Nat) (d:List UInt8) (v:Nat) (rest p:List UInt8) (k:Nat),x=zaz (.slice ao n c) f us∧n≤c∧n % 16=0∧k < 16∧Hid (d.length=n)∧Hid (∀ w',zI sb w w'→zr w' ao (d.map B)) ∧
  Hid (rest.length=16∧rest.take k=p∧p.length=k)∧Hid (v < PP)∧Hid (qz ws r v p d=fin∧True)∧Hid (Blk wr sb (qe r v rest k) 304)∧Hid (zI sb w wr)
theorem PcAt.intro {sb r:Nat} {ws:List UInt32} {f:Value} {fin:Nat×List UInt8} {w:World} {x:Act} {wr:World} (ao:Option Addr) (n c:Nat) (d:List UInt8) (v:Nat) (rest p:List UInt8) (k:Nat) (hx:x=zaz (.slice ao n c) f (fun i=>x.tmps.getD i undef)) (h1:n≤c) (h2:n % 16=0) (h3:k < 16) (h4:d.length=n)
  (h5:∀ w',zI sb w w'→zr w' ao (d.map B)) (h6:rest.length=16∧rest.take k=p∧p.length=k) (h7:v < PP) (h8:qz ws r v p d=fin) (h9:Blk wr sb (qe r v rest k) 304) (h10:zI sb w wr):PcAt sb r ws f fin w x wr :=
 ⟨_,ao,n,c,d,v,rest,p,k,hx,h1,h2,h3,h4,h5,h6,h7,⟨h8,trivial⟩,h9,h10⟩
def zk1 (b2 b5:Nat):Value:=.func (.func 226) #[] #[.pointer (some ⟨b2,0,none⟩),.pointer (some ⟨b5,0,none⟩)]
theorem zh6 (b2 b5 kb sb r v k:Nat) (kt km:List UInt8) (ws:List UInt32) (rest p:List UInt8) (ao:Option Addr) (n cap:Nat) (d:List UInt8) (w:World) (hE:∀ w',zI sb w w'→EnvA w' b2 b5 kb sb kt km ws) (hb:Blk w sb (qe r v rest k) 304) (hrl:rest.length=16) (hp:rest.take k=p) (hk:p.length=k) (hk16:k < 16) (hr:r < PP) (hv:v < PP)
  (hn:d.length=n) (hc:n≤cap) (h16:n % 16=0) (hl:∀ w',zI sb w w'→zr w' ao (d.map B)) :
  Calls Tryz.prog 225 #[.slice ao n cap,zk1 b2 b5] w fun e w'=>(∃ x,e=.returned x)∧(∃ rest',rest'.length=16∧rest'.take (qz ws r v p d).2.length=(qz ws r v p d).2∧Blk w' sb (qe r (qz ws r v p d).1 rest' (qz ws r v p d).2.length) 304)∧zI sb w w':=by
 have HE:=znq hE
 have HSB:=znq hb
 have HO:=znq (zI.refl sb w)
 have HR:=znq hr
 have HV:=znq hv
 have HN:=znq hn
 have HL:=znq hl
 have HRP:=znq (show rest.length=16∧rest.take k=p∧p.length=k from ⟨hrl,hp,hk⟩)
 obtain ⟨fin,hfin⟩:∃ f,f=qz ws r v p d:=⟨_,rfl⟩
 have HF:=znq (And.intro hfin.symm trivial)
 rw [← hfin]
 clear hb hr hv hn hl hrl hp hk hE hfin
 go_enter Tryz.func225,Tryz.ntmps225
 go_wp2_with fail
 refine yd 0 (PcAt sb r ws (zk1 b2 b5) fin w) (fun x _=>X9 (x.tmps.getD 0 undef)) rfl ?_ ?_
 ·simp only [q9]
  exact PcAt.intro ao n cap d v rest p k rfl hc h16 hk16 HN.znr HL.znr HRP.znr HV.znr HF.znr.1 HSB.znr HO.znr
 ·clear HSB HO HV HN HL HRP HF hc h16 hk16
  rintro x wr ⟨us,ao,n,c,d,v,rest,p,k,rfl,hc,h16,hk16,HN,HL,HRP,HV,HF,HSB,HO⟩
  simp only [zaz]
  by_cases h0:n=0
  ·subst h0
   have HE:=znq (show fin=(v,p) from by rw [← HF.znr.1,List.eq_nil_of_length_eq_zero HN.znr,Vg])
   go_wp2
   try rw [Exit.jump_ret]
   refine bodyPost_ret (results_none rfl _ _ _) rfl ?_
   refine ⟨⟨_,rfl⟩,⟨rest,HRP.znr.1,?_,?_⟩,HO.znr⟩
   ·rw [HE.znr]
    show rest.take p.length=p
    rw [HRP.znr.2.2]
    exact HRP.znr.2.1
   ·rw [HE.znr]
    show Blk wr sb (qe r v rest p.length) _
    rw [HRP.znr.2.2]
    exact HSB.znr
  ·have d0:((n:Int)==0)=false:=by simp;omega
   obtain ⟨q,hq⟩:∃ q,q=min n 1024:=⟨_,rfl⟩
   have hq1:q≤n:=by omega
   have hq2:q≤1024:=by omega
   have hq3:1≤q:=by omega
   have hq4:q % 16=0:=by omega
   have hmin:(if (1024:Int) < (n:Int) then (1024:Int) else (n:Int))=(q:Int):=by split <;> omega
   have HTQ:=znq (show (d.take 1024=d.take q∧d.drop 1024=d.drop q)∧(d.take q).length=q from ⟨by
    by_cases h:n≤1024
    ·rw [show q=n by omega,List.take_of_length_le (by rw [HN.znr];omega),List.take_of_length_le (by rw [HN.znr];omega),List.drop_eq_nil_of_le (by rw [HN.znr];omega),List.drop_eq_nil_of_le (by rw [HN.znr];omega)]
     exact ⟨rfl,rfl⟩
    ·rw [show q=1024 by omega];exact ⟨rfl,rfl⟩,by rw [List.length_take,HN.znr];omega⟩)
   clear hq
   have hsl:=fun (w':World)=>ZN (P:=Tryz.prog) w' 22 5 1 Tryz.underlying22 zl ao n c q (by omega)
   obtain ⟨v1,p1,hA⟩:∃ v1 p1,yO r v (p++nh ws (d.take q))=(v1,p1):=⟨_,_,rfl⟩
   have hs:=jV r _ v (p++nh ws (d.take q)) (Nat.le_refl _) HV.znr
   rw [hA] at hs
   have HA:=znq (And.intro hA trivial)
   have HV1:=znq (show v1 < PP∧True from ⟨hs.1,trivial⟩)
   have hp1:p1.length < 16:=hs.2
   have HF1:=znq (show qz ws r v1 p1 (d.drop q)=fin∧True from ⟨by
    rw [← HF.znr.1,Kz (v:=v) (p:=p) (d:=d) (by rw [HN.znr];exact h0),HTQ.znr.1.1,HTQ.znr.1.2,hA],trivial⟩)
   clear hA hs
   unfold zk1
   go_wp2_with fail
   refine (zh5 b2 b5 kb sb r v k kt km ws rest p ao q c (d.take q) _ (fun w' ho=>HE.znr w' (HO.znr.trans ho)) HSB.znr HRP.znr.1 HRP.znr.2.1 HRP.znr.2.2 hk16 HR.znr HV.znr HTQ.znr.2 hq2 hq4 (by rw [List.map_take];exact (HL.znr _ HO.znr).take q)).mono ?_
   rintro e w2 ⟨⟨x2,rfl⟩,⟨r1,hr1l,hr1t,hb⟩,ho⟩
   rw [HA.znr.1] at hr1t hb
   have HSB:=znq hb
   have HR1:=znq (And.intro hr1l hr1t)
   have HO:=znq (HO.znr.trans ho)
   clear hb hr1l hr1t ho hsl
   have hsl:=fun (w':World)=>yv (P:=Tryz.prog) w' 22 5 1 Tryz.underlying22 zl ao n c q q rfl hq1
   go_wp2
   refine wp_goto ⟨rfl,PcAt.intro (yy ao c q) (n - q) (c - q) (d.drop q) v1 r1 p1 p1.length rfl (by omega) (by omega) hp1 (by rw [List.length_drop,HN.znr]) (fun w' ho=>zr.dropA (HL.znr w' ho) (by rw [HN.znr];exact hc) q) ⟨HR1.znr.1,HR1.znr.2,rfl⟩ HV1.znr.1 HF1.znr.1 HSB.znr HO.znr,?_⟩
   simp [X9];omega
end Go.Proofs.YtjaioajjfiaheaaGreatDoor
